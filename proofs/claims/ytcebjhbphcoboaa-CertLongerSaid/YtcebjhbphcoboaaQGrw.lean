/- Regions that draw their order and whose calls hand back one value each and make only new blocks: one walk of the text's order serves every order. Over the kit's class of worlds (Derived/Deep/Quiet.lean). No program in sight. (and what follows from it) -/
import Derived.Test.YtcebjhbphcoboaaHlp
import Derived.Deep.QuietTactic
import Derived.BigQuiet
import Derived.Deep.RegionHeld3
import Derived.Laws.Cover2
import Derived.Laws.Cover3
namespace Go.Proofs.Ytcebjhbphcoboaa.Hlp
open Go Go.RowKit Go.Proofs.YtcebjhbphcoboaaW.PrintWords
/-- A world that has all blocks of w as they are. -/
def GW (w : World) := {W : World // Below w.heap.size w W}
instance gw_nonempty (w : World) : Nonempty (GW w) := ⟨⟨w, Below.refl _ _⟩⟩
theorem GW.trans {w : World} (u : GW w) {W : World} (h : Below u.1.heap.size u.1 W) : ∃ u' : GW w, W = u'.1 := ⟨⟨W, u.2.trans (h.mono u.2.size)⟩, rfl⟩
theorem GW.below {w0 w : World} (h : Below w0.heap.size w0 w) (u : GW w) : Below w0.heap.size w0 u.1 := h.trans (u.2.mono h.size)
theorem GW.cell {w : World} {a : Addr} {v : Value} (h : w.cell? a = some v) (u : GW w) : u.1.cell? a = some v := cell_below h u.2
theorem GW.blk {w : World} {g : Nat} {o : Obj} (h : w.heap[g]? = some o) (u : GW w) : u.1.heap[g]? = some o := blk_below h u.2
theorem Calls.grown {P : Program} {f : FuncId} {args : Array Value} {w : World} (u : GW w) {v : Value} (h : Calls P f args u.1 fun e w' => e = .returned v ∧ Below u.1.heap.size u.1 w') :
    Calls P f args u.1 fun e w'' => e = .returned v ∧ ∃ u' : GW w, w'' = u'.1 := h.mono fun _ _ ⟨he, hb⟩ => ⟨he, u.trans hb⟩
theorem wp_region_grown {P : Program} {id : Nat} {Q : Exit → Act → World → Prop} {a : Act} {w : World} {l : List Oper} (hm : P.follows .mixedOrders = true) (hB : Region.lexB .any l.toArray = true)
    (h : wpQuiet P l.toArray (fun w' => ∃ u : GW w, w' = u.1) (fun a' => ∀ w', (∃ u : GW w, w' = u.1) → Q .normal a' w') l a) : (Code.region id l.toArray true).wp P Q a w :=
  wp_region_quiet (C := fun w' => ∃ u : GW w, w' = u.1) hm hB ⟨⟨w.drew, pw_below_drewN (Below.refl _ _) 1⟩, rfl⟩ (by simpa using h)
end Go.Proofs.Ytcebjhbphcoboaa.Hlp
namespace Go.Proofs.Ytcebjhbphcoboaa.Hlp
open Go Go.RowKit
theorem step_call {P : Program} {ops : Array Oper} {o : Oper} {a : Act} {w : World} {K : Act → World → Prop} {Q : Exit → Act → World → Prop} {E : Prop} (hgd : o.guard = none) (f : FuncId) (xs : List Operand) (ts : Array TypeId)
    (ho : o.op = .call { callee := .value (.func f), args := xs.toArray, argTypes := ts }) (vals : List Value) (hv : xs.map a.eval = vals) (eg : ∀ args w, (callFunc f args).run P w = .ok (.enter f args) w)
    (hc : Calls P f vals.toArray w fun e w' => ∃ v, e = .returned v ∧ K (a.put o.dst v) w') : if Region.wanted o (yielded ops a.tmps) = true then Oper.wp P o a w K Q else E := by
  have hw : Region.wanted o (yielded ops a.tmps) = true := by simp [Region.wanted, hgd]
  rw [if_pos hw]
  have hr : (execOp a.eval o).run P w = .ok (.enter f vals.toArray) w := by
    unfold execOp
    simp [ho, resolve, invoke, hv, eg, Deferred.ofValue, show a.eval (.func f) = .func (.func f) #[] #[] from rfl]
  unfold Oper.wp
  rw [hr]
  unfold Oper.upon
  exact hc.mono fun e w' ⟨v, he, hk⟩ => by subst he; exact hk
end Go.Proofs.Ytcebjhbphcoboaa.Hlp
namespace Go.Proofs.Ytcebjhbphcoboaa.Ato
open Go
theorem log_le (n : Nat) (h0 : 0 < n) (h1 : n < 2 ^ 53) : n.log2 ≤ 52 := by
  have := (Nat.log2_lt (by omega)).mpr h1
  omega
theorem kept_ge (n : Nat) (h0 : 0 < n) (h1 : n < 2 ^ 53) : 2 ^ 52 ≤ n * 2 ^ (52 - n.log2) ∧ n * 2 ^ (52 - n.log2) < 2 ^ 53 := by
  have hl := log_le n h0 h1
  have h2 := Nat.log2_self_le (n := n) (by omega)
  have h3 : n < 2 ^ (n.log2 + 1) := (Nat.log2_lt (by omega)).mp (Nat.lt_succ_self _)
  have e1 : 2 ^ n.log2 * 2 ^ (52 - n.log2) = 2 ^ 52 := by rw [← Nat.pow_add]; congr 1; omega
  have e2 : 2 ^ (n.log2 + 1) * 2 ^ (52 - n.log2) = 2 ^ 53 := by rw [← Nat.pow_add]; congr 1; omega
  constructor
  · rw [← e1]; exact Nat.mul_le_mul_right _ h2
  · rw [← e2]; exact Nat.mul_lt_mul_of_pos_right h3 (Nat.two_pow_pos _)
theorem nearest_nat (n : Nat) (h0 : 0 < n) (h1 : n < 2 ^ 53) : Ieee.double.nearest false n 0 = (n.log2 + 1022) * 2 ^ 52 + n * 2 ^ (52 - n.log2) := by
  have hl := log_le n h0 h1
  obtain ⟨hk0, hk1⟩ := kept_ge n h0 h1
  have hlast : max ((0 : Int) + (n.log2 : Int) - 52) (-1074) = (n.log2 : Int) - 52 := by omega
  have hlp : Ieee.double.leastPlace = -1074 := by decide
  have hb : Ieee.double.binade = 2 ^ 52 := rfl
  have hi : Ieee.double.infRung = 2047 * 2 ^ 52 := by decide
  have hfb : ((Ieee.double.fractionBits : Nat) : Int) = 52 := rfl
  unfold Ieee.Format.nearest
  rw [if_neg (by omega), hlp, hb, hi]
  simp only [hfb, hlast]
  rw [show ((n.log2 : Int) - 52 - 0).toNat = 0 by omega, show (0 - ((n.log2 : Int) - 52)).toNat = 52 - n.log2 by omega, show ((n.log2 : Int) - 52 - -1074).toNat = n.log2 + 1022 by omega]
  have hc : Ieee.Toward.cut .even false (n <<< (52 - n.log2)) 0 = n * 2 ^ (52 - n.log2) := by
    simp [Ieee.Toward.cut, Nat.shiftLeft_eq, Nat.mod_one]
  rw [hc]
  unfold Ieee.Format.word
  rw [if_neg (by decide)]
  generalize n * 2 ^ (52 - n.log2) = kp at *
  omega
theorem read_nat (n : Nat) (h0 : 0 < n) (h1 : n < 2 ^ 53) : Ieee.double.read (Ieee.double.nearest false n 0) = .number false (n * 2 ^ (52 - n.log2)) ((n.log2 : Int) - 52) := by
  have hl := log_le n h0 h1
  obtain ⟨hk0, hk1⟩ := kept_ge n h0 h1
  rw [nearest_nat n h0 h1]
  have hlp : Ieee.double.leastPlace = -1074 := by decide
  have hb : Ieee.double.binade = 2 ^ 52 := rfl
  have hi : Ieee.double.infRung = 2047 * 2 ^ 52 := by decide
  have hs : Ieee.double.signWeight = 2 ^ 63 := rfl
  unfold Ieee.Format.read
  rw [hlp, hb, hi, hs]
  generalize n * 2 ^ (52 - n.log2) = kp at *
  have hd : ((n.log2 + 1022) * 2 ^ 52 + kp) / 2 ^ 63 % 2 = 0 := by omega
  have hm : ((n.log2 + 1022) * 2 ^ 52 + kp) % 2 ^ 63 = (n.log2 + 1022) * 2 ^ 52 + kp := by omega
  simp only [hd, hm]
  rw [if_neg (by omega), if_pos (by omega)]
  have e1 : ((n.log2 + 1022) * 2 ^ 52 + kp) % 2 ^ 52 = kp - 2 ^ 52 := by omega
  have e2 : ((n.log2 + 1022) * 2 ^ 52 + kp) / 2 ^ 52 = n.log2 + 1023 := by omega
  have e3 : 2 ^ 52 + (kp - 2 ^ 52) = kp := by omega
  have e4 : (-1074 : Int) + ((n.log2 + 1023 - 1 : Nat) : Int) = (n.log2 : Int) - 52 := by omega
  rw [e1, e2, e3, e4]
  rfl
theorem order_nat (n m : Nat) (hn0 : 0 < n) (hn : n < 2 ^ 53) (hm0 : 0 < m) (hm : m < 2 ^ 53) : Ieee.double.order (Ieee.double.nearest false n 0) (Ieee.double.nearest false m 0) = some (compare n m) := by
  have hl := log_le n hn0 hn
  have hl' := log_le m hm0 hm
  unfold Ieee.Format.order
  rw [read_nat n hn0 hn, read_nat m hm0 hm]
  unfold Ieee.Datum.order
  simp only [Ieee.signed, Nat.shiftLeft_eq]
  have key : ∀ (k a b c : Nat), a + b = c → k * 2 ^ a * 2 ^ b = k * 2 ^ c := fun k a b c h => by rw [Nat.mul_assoc, ← Nat.pow_add, h]
  rw [if_neg (by decide), if_neg (by decide)]
  rw [key n (52 - n.log2) _ (52 - min n.log2 m.log2) (by omega), key m (52 - m.log2) _ (52 - min n.log2 m.log2) (by omega)]
  congr 1
  have hp := Nat.two_pow_pos (52 - min n.log2 m.log2)
  generalize 2 ^ (52 - min n.log2 m.log2) = P at *
  have h1 : ((n * P : Nat) : Int) < ((m * P : Nat) : Int) ↔ n < m := by rw [Int.ofNat_lt]; exact Nat.mul_lt_mul_right hp
  have h2 : ((n * P : Nat) : Int) = ((m * P : Nat) : Int) ↔ n = m := by rw [Int.ofNat_inj]; exact Nat.mul_left_inj (by omega)
  simp only [compare, compareOfLessAndEq, h1, h2]
/-- Whole numbers as floats stand as they do. -/
theorem order_int (n m : Int) (hn0 : 0 < n) (hn : n < 2 ^ 53) (hm0 : 0 < m) (hm : m < 2 ^ 53) : FloatKind.f64.format.order (floatOfInt .f64 n) (floatOfInt .f64 m) = some (compare n m) := by
  have e : ∀ k : Int, 0 < k → floatOfInt .f64 k = Ieee.double.nearest false k.toNat 0 := fun k hk => by
    show Ieee.double.nearest (decide (k < 0)) k.natAbs 0 = _
    rw [decide_eq_false (by omega), show k.natAbs = k.toNat by omega]
  rw [e n hn0, e m hm0]
  show Ieee.double.order _ _ = _
  rw [order_nat _ _ (by omega) (by omega) (by omega) (by omega)]
  congr 1
  have h1 : n.toNat < m.toNat ↔ n < m := by omega
  have h2 : n.toNat = m.toNat ↔ n = m := by omega
  simp only [compare, compareOfLessAndEq, h1, h2]
end Go.Proofs.Ytcebjhbphcoboaa.Ato
