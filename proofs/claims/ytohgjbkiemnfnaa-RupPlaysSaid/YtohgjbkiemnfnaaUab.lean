/- What follows by units from literals: plain words, and that whoever goes on until nothing is left comes to the same. No program in sight. -/
import Derived.Test.YtohgjbkiemnfnaaCg
import Derived.Test.YtohgjbkiemnfnaaHlp
import Derived.Test.YtohgjbkiemnfnaaAid
import Derived.Test.YtohgjbkiemnfnaaR0
import Derived.Maps.AppendAt
import Derived.Maps.OwnSet
import Derived.Maps.OwnOps
import Derived.Maps.RangeWalk
import Derived.WalkKit
import Derived.WalkSpells
import Derived.WalkArith
namespace Go.Proofs.Ytohgjbkiemnfnaa.Rup
open Go.Proofs.Ytohgjbkiemnfnaa.Clause12 Go.Proofs.Ytohgjbkiemnfnaa.Clean12
set_option linter.unusedVariables false
/-- A literal's truth among true ones. -/
def tr (T : List Int) (x : Int) : Int := if x ∈ T then 1 else if -x ∈ T then -1 else 0
def Cons (T : List Int) : Prop := ∀ x ∈ T, -x ∉ T
theorem tr_one {T : List Int} {x : Int} : tr T x = 1 ↔ x ∈ T := by
  unfold tr; split <;> rename_i h
  · simp [h]
  · split <;> simp [h]
theorem tr_no {T : List Int} (h : Cons T) {x : Int} : tr T x = -1 ↔ -x ∈ T := by
  unfold tr
  by_cases h1 : x ∈ T
  · rw [if_pos h1]; simp [h x h1]
  · rw [if_neg h1]
    by_cases h2 : -x ∈ T <;> simp [h2]
theorem tr_free {T : List Int} {x : Int} : tr T x = 0 ↔ x ∉ T ∧ -x ∉ T := by
  unfold tr
  by_cases h1 : x ∈ T
  · simp [h1]
  · rw [if_neg h1]
    by_cases h2 : -x ∈ T <;> simp [h1, h2]
theorem tr_cases (T : List Int) (x : Int) : tr T x = 1 ∨ tr T x = -1 ∨ tr T x = 0 := by
  unfold tr; split
  · exact .inl rfl
  · split
    · exact .inr (.inl rfl)
    · exact .inr (.inr rfl)
def Fails (T c : List Int) : Prop := ∀ y ∈ c, tr T y = -1
def Unit1 (T c : List Int) (x : Int) : Prop := x ∈ c ∧ tr T x = 0 ∧ ∀ y ∈ c, y ≠ x → tr T y = -1
/-- What follows. -/
def Der (X : List (List Int)) (T0 : List Int) (x : Int) : Prop :=
  ∀ S : Int → Prop, (∀ y ∈ T0, S y) → (∀ c ∈ X, ∀ x ∈ c, (∀ y ∈ c, y ≠ x → S (-y)) → S x) → S x
theorem Der.base {X : List (List Int)} {T0 : List Int} {x : Int} (h : x ∈ T0) : Der X T0 x := fun S h0 _ => h0 x h
theorem Der.unit {X : List (List Int)} {T0 : List Int} {x : Int} {c : List Int} (hc : c ∈ X) (hx : x ∈ c) (h : ∀ y ∈ c, y ≠ x → Der X T0 (-y)) : Der X T0 x :=
  fun S h0 h1 => h1 c hc x hx fun y hy hne => h y hy hne S h0 h1
theorem Der.mono {X X' : List (List Int)} {T0 T1 : List Int} (hX : ∀ c ∈ X, c ∈ X') (hT : ∀ x ∈ T0, x ∈ T1) {x : Int} (h : Der X T0 x) : Der X' T1 x :=
  fun S h0 h1 => h S (fun y hy => h0 y (hT y hy)) fun c hc => h1 c (hX c hc)
/-- How going on may end: with a clause that fails; with literals from which nothing more follows. -/
def Out (X : List (List Int)) (T0 : List Int) : Option (List Int) → Prop
  | none => ∃ c ∈ X, ∀ y ∈ c, Der X T0 (-y)
  | some T => (∀ x ∈ T0, x ∈ T) ∧ Cons T ∧ (∀ x ∈ T, Der X T0 x) ∧ ∀ c ∈ X, ¬ Fails T c ∧ ∀ x, ¬ Unit1 T c x
theorem Der.in_closed {X : List (List Int)} {T0 T : List Int} (h0 : ∀ x ∈ T0, x ∈ T) (hC : Cons T) (hX : ∀ c ∈ X, ¬ Fails T c ∧ ∀ x, ¬ Unit1 T c x) {x : Int} (h : Der X T0 x) : x ∈ T := by
  refine h (· ∈ T) h0 fun c hc x hx hy => ?_
  have hn : ∀ y ∈ c, y ≠ x → tr T y = -1 := fun y hyc hne => (tr_no hC).mpr (hy y hyc hne)
  rcases tr_cases T x with h | h | h
  · exact tr_one.mp h
  · refine absurd (fun y hyc => ?_) (hX c hc).1
    by_cases e : y = x
    · rw [e]; exact h
    · exact hn y hyc e
  · exact absurd ⟨hx, h, hn⟩ ((hX c hc).2 x)
theorem Out.fails {X : List (List Int)} {T0 T : List Int} (h : Out X T0 (some T)) {c : List Int} (hc : c ∈ X) (hd : ∀ y ∈ c, Der X T0 (-y)) : False :=
  (h.2.2.2 c hc).1 fun y hy => (tr_no h.2.1).mpr (Der.in_closed h.1 h.2.1 h.2.2.2 (hd y hy))
theorem Out.one {X : List (List Int)} {T0 : List Int} {r1 r2 : Option (List Int)} (h1 : Out X T0 r1) (h2 : Out X T0 r2) : r1.isSome = r2.isSome := by
  cases r1 with
  | none =>
    cases r2 with
    | none => rfl
    | some T => obtain ⟨c, hc, hd⟩ := h1; exact (h2.fails hc hd).elim
  | some T =>
    cases r2 with
    | none => obtain ⟨c, hc, hd⟩ := h2; exact (h1.fails hc hd).elim
    | some T2 => rfl
theorem Out.mem {X : List (List Int)} {T0 T1 T2 : List Int} (h1 : Out X T0 (some T1)) (h2 : Out X T0 (some T2)) (x : Int) : x ∈ T1 ↔ x ∈ T2 :=
  ⟨fun h => Der.in_closed h2.1 h2.2.1 h2.2.2.2 (h1.2.2.1 x h), fun h => Der.in_closed h1.1 h1.2.1 h1.2.2.2 (h2.2.2.1 x h)⟩
/-- Order and repeats of what is true at first don't matter. -/
theorem Out.perm {X : List (List Int)} {T0 T1 : List Int} (h : ∀ x, x ∈ T0 ↔ x ∈ T1) {r : Option (List Int)} (ho : Out X T0 r) : Out X T1 r := by
  cases r with
  | none => obtain ⟨c, hc, hd⟩ := ho; exact ⟨c, hc, fun y hy => (hd y hy).mono (fun _ h => h) fun x hx => (h x).mp hx⟩
  | some T => exact ⟨fun x hx => ho.1 x ((h x).mpr hx), ho.2.1, fun x hx => (ho.2.2.1 x hx).mono (fun _ h => h) fun x hx => (h x).mp hx, ho.2.2.2⟩
/-- On the way. -/
def Way (X : List (List Int)) (T0 T : List Int) : Prop := (∀ x ∈ T0, x ∈ T) ∧ Cons T ∧ ∀ x ∈ T, Der X T0 x
theorem Way.start {X : List (List Int)} {T0 : List Int} (h : Cons T0) : Way X T0 T0 := ⟨fun _ h => h, h, fun x hx => Der.base hx⟩
theorem Way.put {X : List (List Int)} {T0 T c : List Int} {x : Int} (h : Way X T0 T) (hc : c ∈ X) (hu : Unit1 T c x) (h0 : x ≠ 0) : Way X T0 (T ++ [x]) := by
  obtain ⟨hx, hf, hy⟩ := hu
  obtain ⟨f1, f2⟩ := tr_free.mp hf
  refine ⟨fun y hy => List.mem_append_left _ (h.1 y hy), ?_, ?_⟩
  · intro y hy hn
    rw [List.mem_append, List.mem_singleton] at hy hn
    rcases hy with hy | rfl
    · rcases hn with hn | hn
      · exact h.2.1 y hy hn
      · rw [← hn, Int.neg_neg] at f2; exact f2 hy
    · rcases hn with hn | hn
      · exact f2 hn
      · omega
  · intro y hm
    rw [List.mem_append, List.mem_singleton] at hm
    rcases hm with hm | rfl
    · exact h.2.2 y hm
    · exact Der.unit hc hx fun z hz hne => h.2.2 _ ((tr_no h.2.1).mp (hy z hz hne))
theorem Way.fails {X : List (List Int)} {T0 T c : List Int} (h : Way X T0 T) (hc : c ∈ X) (hf : Fails T c) : Out X T0 none :=
  ⟨c, hc, fun y hy => h.2.2 _ ((tr_no h.2.1).mp (hf y hy))⟩
theorem Way.done {X : List (List Int)} {T0 T : List Int} (h : Way X T0 T) (hX : ∀ c ∈ X, ¬ Fails T c ∧ ∀ x, ¬ Unit1 T c x) : Out X T0 (some T) := ⟨h.1, h.2.1, h.2.2, hX⟩
/-- How many literals of the clauses have no truth yet. -/
def leftL (X : List (List Int)) (T : List Int) : Nat := (X.flatten.filter fun x => decide (tr T x = 0)).length
theorem left_put {X : List (List Int)} {T c : List Int} {x : Int} (hc : c ∈ X) (hx : x ∈ c) (hf : tr T x = 0) : leftL X (T ++ [x]) < leftL X T := by
  unfold leftL
  have hm : x ∈ X.flatten := List.mem_flatten.mpr ⟨c, hc, hx⟩
  have hsub : ∀ y, tr (T ++ [x]) y = 0 → tr T y = 0 := by
    intro y hy
    rw [tr_free, List.mem_append, List.mem_append] at hy
    exact tr_free.mpr ⟨fun h => hy.1 (.inl h), fun h => hy.2 (.inl h)⟩
  have hno : ¬ tr (T ++ [x]) x = 0 := by rw [tr_free]; simp
  generalize X.flatten = l at hm
  induction l with
  | nil => cases hm
  | cons a l ih =>
    have hle : ∀ l : List Int, (l.filter fun y => decide (tr (T ++ [x]) y = 0)).length ≤ (l.filter fun y => decide (tr T y = 0)).length := by
      intro l
      induction l with
      | nil => exact Nat.le_refl _
      | cons a l ih =>
        rw [List.filter_cons, List.filter_cons]
        by_cases h1 : tr (T ++ [x]) a = 0
        · rw [if_pos (decide_eq_true h1), if_pos (decide_eq_true (hsub a h1))]
          exact Nat.succ_le_succ ih
        · rw [if_neg (by simpa using h1)]
          split
          · exact Nat.le_succ_of_le ih
          · exact ih
    rw [List.mem_cons] at hm
    rw [List.filter_cons, List.filter_cons]
    rcases hm with rfl | hm
    · rw [if_neg (by simpa using hno), if_pos (decide_eq_true hf)]
      exact Nat.lt_succ_of_le (hle l)
    · by_cases h1 : tr (T ++ [x]) a = 0
      · rw [if_pos (decide_eq_true h1), if_pos (decide_eq_true (hsub a h1))]
        exact Nat.succ_lt_succ (ih hm)
      · rw [if_neg (by simpa using h1)]
        split
        · exact Nat.lt_succ_of_lt (ih hm)
        · exact ih hm
/-- What the clauses and the literals hold at, what follows holds at, too. -/
theorem Der.holds {X : List (List Int)} {T0 : List Int} {x : Int} (h : Der X T0 x) (V : Int → Prop) (hT : ∀ y ∈ T0, V y) (hX : ∀ c ∈ X, ∃ y ∈ c, V y) (hn : ∀ y, V (-y) → ¬ V y) : V x :=
  h V hT fun c hc x hx hy => by
    obtain ⟨y, hyc, hv⟩ := hX c hc
    by_cases e : y = x
    · rw [← e]; exact hv
    · exact absurd hv (hn y (hy y hyc e))
end Go.Proofs.Ytohgjbkiemnfnaa.Rup

namespace Go.Proofs.Ytohgjbkiemnfnaa.Rup
open Go Go.RowKit Go.Maps Go.Proofs.Ytohgjbkiemnfnaa.R Go.Proofs.Ytohgjbkiemnfnaa.Hlp Go.Proofs.Ytohgjbkiemnfnaa.Aid Go.Proofs.YtohgjbkiemnfnaaW.PrintWords Go.Proofs.YtohgjbkiemnfnaaW.PrintLast Go.Proofs.YtohgjbkiemnfnaaW.PrintMore
attribute [local go_sem] max2_int min2_int max_two min_two
set_option linter.unusedVariables false
set_option linter.unusedSimpArgs false
noncomputable abbrev El := plainElem (H := Unit) Try.prog 3
theorem keyed : Keyed Try.prog 3 := int_keyed Try.underlying3
theorem zero3 (w : World) : (zeroValue 3).run Try.prog w = .ok (.int .i64 0) w := by kernel_rfl
def vkey (v : Int) : Lit := .int .i64 v
def i64L (x : Int) : DataW Unit := .lit (.int .i64 x)
theorem wf64 {v : Int} (h0 : -9223372036854775808 ≤ v) (h1 : v ≤ 9223372036854775807) : (Lit.int .i64 v).wf = true := by
  have e1 : IntKind.i64.min = -9223372036854775808 := by decide
  have e2 : IntKind.i64.max = 9223372036854775807 := by decide
  simp only [Lit.wf, Bool.and_eq_true, decide_eq_true_eq, e1, e2]
  exact ⟨h0, h1⟩
theorem keyOf_v {v : Int} (h0 : -9223372036854775808 ≤ v) (h1 : v ≤ 9223372036854775807) : keyOf Try.prog 3 (.int .i64 v) = some (vkey v) := keyOf_int_mk Try.underlying3 (wf64 h0 h1)
theorem key_ne {v x : Int} (h : v ≠ x) : vkey v ≠ vkey x := fun e => by unfold vkey at e; injection e; contradiction
/-- A literal of a variable. -/
def Lit1 (x : Int) : Prop := x ≠ 0 ∧ -16777216 ≤ x ∧ x ≤ 16777216
def FH (D : DataW Unit) (T : List Int) : Prop :=
  (∀ v, 1 ≤ v → v ≤ 16777216 → D.atKey (vkey v) (i64L 0) = i64L (tr T v) ∧ has D (vkey v) = decide (tr T v ≠ 0)) ∧ ∀ kl, has D kl = true → ∃ v, kl = vkey v ∧ 1 ≤ v ∧ v ≤ 16777216
def FM (W : World) (base b n : Nat) (T : List Int) : Prop := base ≤ b ∧ ∃ D, W.ownsMap Try.prog 3 El b n D ∧ FH D T
theorem FM.kept {W W' : World} {base b n : Nat} {T : List Int} {row : Option Nat} (h : FM W base b n T) (hg : W.grownBy W' row) (hb : some b ≠ row) : FM W' base b n T := by
  obtain ⟨h0, D, ⟨es, clock, e1, e2⟩, h2⟩ := h
  exact ⟨h0, D, ⟨es, clock, (hg.block b (blk_lt e1) hb).trans e1, e2⟩, h2⟩
theorem FM.lt {W : World} {base b n : Nat} {T : List Int} (h : FM W base b n T) : base ≤ b ∧ b < W.heap.size := by
  obtain ⟨h0, D, ⟨es, clock, e1, e2⟩, h2⟩ := h
  exact ⟨h0, blk_lt e1⟩
theorem tr_put {T : List Int} {x v : Int} (h1 : v ≠ x) (h2 : -v ≠ x) : tr (T ++ [x]) v = tr T v := by
  unfold tr
  simp [h1, h2]
theorem tr_put_pos {T : List Int} {x : Int} : tr (T ++ [x]) x = 1 := tr_one.mpr (by simp)
theorem tr_put_neg {T : List Int} {x : Int} (h0 : x ≠ 0) (h : -x ∉ T) : tr (T ++ [x]) (-x) = -1 := by
  unfold tr
  rw [if_neg (by simp only [List.mem_append, List.mem_singleton]; rintro (h1 | h1); exact h h1; omega), if_pos (by simp)]
theorem tr_neg {T : List Int} (h : Cons T) (x : Int) (h0 : x ≠ 0) : tr T (-x) = -tr T x := by
  unfold tr
  rw [Int.neg_neg]
  by_cases h1 : x ∈ T
  · rw [if_neg (h x h1), if_pos h1, if_pos h1]
  · rw [if_neg h1, if_neg h1]
    by_cases h2 : -x ∈ T <;> simp [h2]
theorem FH.put {D : DataW Unit} {T : List Int} {x : Int} (h : FH D T) (hm : IsMap D) (hx : Lit1 x) (hn : -x ∉ T) (v s : Int) (hv : v = if x < 0 then -x else x) (hs : s = if x < 0 then -1 else 1) : FH (D.put (vkey v) (i64L s)) (T ++ [x]) := by
  obtain ⟨hx0, hx1, hx2⟩ := hx
  have hk : WideAt.IsKeyLit (vkey v) := (keyed.key (keyOf_v (by rw [hv]; split <;> omega) (by rw [hv]; split <;> omega)))
  refine ⟨fun u h1 h2 => ?_, fun kl hkl => ?_⟩
  · by_cases e : u = v
    · subst e
      rw [atKey_put_same hm hk, has_put_same hm hk]
      by_cases hneg : x < 0
      · rw [if_pos hneg] at hv hs
        subst hv hs
        rw [tr_put_neg hx0 hn]
        exact ⟨rfl, rfl⟩
      · rw [if_neg hneg] at hv hs
        subst hv hs
        rw [tr_put_pos]
        exact ⟨rfl, rfl⟩
    · rw [atKey_put_other (key_ne e), has_put_other (key_ne e), tr_put (by split at hv <;> omega) (by split at hv <;> omega)]
      exact h.1 u h1 h2
  · by_cases e : kl = vkey v
    · exact ⟨v, e, by rw [hv]; split <;> omega, by rw [hv]; split <;> omega⟩
    · rw [has_put_other e] at hkl
      exact h.2 kl hkl
set_option maxRecDepth 100000 in
theorem take_calls {W : World} {base b n : Nat} {T : List Int} (h : FM W base b n T) (x : Int) (hx : Lit1 x) (hn : -x ∉ T) (hl : n < maxLen) :
    Calls Try.prog 83 #[.map (some b), .int .i64 x] W fun e w' => e = .returned (.bool true) ∧ FM w' base b (n + 1) (T ++ [x]) ∧ W.grownBy w' (some b) := by
  obtain ⟨hb, D, hown, hD⟩ := h
  obtain ⟨hx0, hx1, hx2⟩ := hx
  obtain ⟨v, hv⟩ : ∃ v, v = if x < 0 then -x else x := ⟨_, rfl⟩
  have hvr : 1 ≤ v ∧ v ≤ 16777216 := by rw [hv]; split <;> omega
  obtain ⟨c, hrun, hat, hwc⟩ := hown.lookup_int keyed Try.underlying91 Try.underlying3 (zero3 W) (keyOf_v (v := v) (by omega) (by omega))
  have hc : c = tr T v := by
    have := (hD.1 v hvr.1 hvr.2).1.symm.trans hat
    unfold i64L at this
    injection this with this
    injection this with _ this
    exact this.symm
  have hput := hD.put hown.isMap ⟨hx0, hx1, hx2⟩ hn v
  clear hat hwc
  have hkv := keyOf_v (v := v) (by omega) (by omega)
  have hw1 := plainElem_int (H := Unit) Try.underlying3 (wf64 (v := 1) (by decide) (by decide))
  have hw2 := plainElem_int (H := Unit) Try.underlying3 (wf64 (v := -1) (by decide) (by decide))
  have hnx : IntKind.i64.wrap (-x) = -x := (i64_w _).trans (wrap64_in (by omega) (by omega))
  by_cases hneg : x < 0
  · rw [if_pos hneg] at hv
    have hne : (c == 1) = false := by
      rw [hc, hv, beq_eq_false_iff_ne]
      intro e
      exact hn (tr_one.mp e)
    have hmx : max x (-x) = -x := by omega
    have hpt := hput (-1) (by rw [if_pos hneg]; exact hv) (by rw [if_pos hneg])
    subst hv
    clear hput hc hD hn
    go_enter Try.func83, Try.ntmps83
    go_wp2_with (first
      | (at_mapUpdate; refine wpList_mapUpdate_own _ rfl _ _ _ 91 rfl 3 3 keyed Try.underlying91 _ b n D rfl hown hl (.int .i64 (-x)) (.int .i64 (-1)) (vkey (-x)) rfl rfl hkv _ [] hw2 ?_; intro w1 hown1 hg1))
    go_ret
    exact ⟨rfl, ⟨hb, _, hown1, hpt⟩, hg1⟩
  · rw [if_neg hneg] at hv
    have hne : (c == -1) = false := by
      rw [hc, hv, beq_eq_false_iff_ne]
      intro e
      unfold tr at e
      rw [if_neg hn] at e
      split at e <;> omega
    have hmx : max x (-x) = x := by omega
    have hpt := hput 1 (by rw [if_neg hneg]; exact hv) (by rw [if_neg hneg])
    subst hv
    clear hput hc hD hn
    go_enter Try.func83, Try.ntmps83
    go_wp2_with (first
      | (at_mapUpdate; refine wpList_mapUpdate_own _ rfl _ _ _ 91 rfl 3 3 keyed Try.underlying91 _ b n D rfl hown hl (.int .i64 v) (.int .i64 1) (vkey v) rfl rfl hkv _ [] hw1 ?_; intro w1 hown1 hg1))
    go_ret
    exact ⟨rfl, ⟨hb, _, hown1, hpt⟩, hg1⟩
set_option maxRecDepth 100000 in
theorem look_true {W : World} {base b n : Nat} {T : List Int} (h : FM W base b n T) (v : Int) (h1 : 1 ≤ v) (h2 : v ≤ 16777216) : (Instr.lookup 91 (.map (some b)) (.int .i64 v) false).run Try.prog W = .ok (.int .i64 (tr T v)) W := by
  obtain ⟨hb, D, hown, hD⟩ := h
  obtain ⟨c, hrun, hat, hwc⟩ := hown.lookup_int keyed Try.underlying91 Try.underlying3 (zero3 W) (keyOf_v (v := v) (by omega) (by omega))
  have hc : c = tr T v := by
    have := (hD.1 v h1 h2).1.symm.trans hat
    unfold i64L at this
    injection this with this
    injection this with _ this
    exact this.symm
  rw [hc] at hrun
  exact hrun
theorem tr_in (T : List Int) (x : Int) : -1 ≤ tr T x ∧ tr T x ≤ 1 := by
  rcases tr_cases T x with h | h | h <;> omega
set_option maxRecDepth 100000 in
theorem truth_calls {W : World} {base b n : Nat} {T : List Int} (h : FM W base b n T) (hC : Cons T) (x : Int) (hx : Lit1 x) :
    Calls Try.prog 110 #[.map (some b), .int .i64 x] W fun e w' => e = .returned (.int .i64 (tr T x)) ∧ w' = W := by
  obtain ⟨hx0, hx1, hx2⟩ := hx
  have hnx : IntKind.i64.wrap (-x) = -x := (i64_w _).trans (wrap64_in (by omega) (by omega))
  by_cases hneg : x < 0
  · have hl := look_true h (-x) (by omega) (by omega)
    rw [tr_neg hC x hx0] at hl
    have hi := tr_in T x
    generalize tr T x = q at *
    have hnq : IntKind.i64.wrap (-(-q)) = q := by rw [Int.neg_neg]; exact (i64_w _).trans (wrap64_in (by omega) (by omega))
    go_enter Try.func110, Try.ntmps110
    go_wp2
    go_ret
    exact ⟨rfl, rfl⟩
  · have hl := look_true h x (by omega) (by omega)
    generalize tr T x = q at *
    go_enter Try.func110, Try.ntmps110
    go_wp2
    go_ret
    exact ⟨rfl, rfl⟩
/-- A clause's one literal that isn't false, and how many aren't. -/
def unitN (T : List Int) : List Int → Int → Int → Int × Int
  | [], l, n => (l, n)
  | x :: c, l, n => if tr T x = 1 then (0, 2) else if tr T x = 0 then (if n + 1 = 2 then (0, 2) else unitN T c x (n + 1)) else unitN T c l n
def unitP (T c : List Int) : Int × Int := unitN T c 0 0
theorem rd_nat (l : List Int) (n : Nat) (h : n < l.length) : rd l (n : Int) = l[n] := by rw [rd_of (by omega) (by omega)]; rfl
theorem unit_drop (T c : List Int) (i : Nat) (h : i < c.length) (l n : Int) : unitN T (c.drop i) l n = if tr T (rd c i) = 1 then (0, 2) else if tr T (rd c i) = 0 then (if n + 1 = 2 then (0, 2) else unitN T (c.drop (i + 1)) (rd c i) (n + 1)) else unitN T (c.drop (i + 1)) l n := by
  rw [List.drop_eq_getElem_cons h, unitN, rd_nat c i h]
set_option maxHeartbeats 1000000 in
set_option maxRecDepth 100000 in
theorem unit_calls {W : World} {base b n : Nat} {T : List Int} (h : FM W base b n T) (hC : Cons T) {A : Option Addr} {cc : Nat} {c : List Int} (hr : Kd.C (Kd.int .i64) W A c.length c) (hcc : c.length ≤ cc) (hl : c.length ≤ 1000000) (hx : ∀ x ∈ c, Lit1 x) :
    Calls Try.prog 96 #[.map (some b), .slice A c.length cc] W fun e w' => e = .returned (.tuple #[.int .i64 (unitP T c).1, .int .i64 (unitP T c).2]) ∧ w' = W := by
  have HU : Aside0 (unitN T (c.drop 0) 0 0 = unitP T c) := ⟨rfl⟩
  generalize hup : unitP T c = U at HU ⊢
  clear hup
  go_enter Try.func96, Try.ntmps96
  go_wp2
  go_loopw [4, 5, 10] (fun v4 v5 v10 wr => ∃ (i : Nat) (l m : Int), i ≤ c.length ∧ v10 = .int .i64 i ∧ v4 = .int .i64 l ∧ v5 = .int .i64 m ∧ 0 ≤ m ∧ m ≤ 1 ∧ Aside0 (unitN T (c.drop i) l m = U) ∧ wr = W)
    (fun _ _ v10 _ => c.length - (intOf v10).toNat)
  case atStart => exact ⟨0, 0, 0, Nat.zero_le _, rfl, rfl, rfl, by decide, by decide, HU, rfl⟩
  case round =>
    obtain ⟨i, l, m, hi, rfl, rfl, rfl, hm0, hm1, HU, rfl⟩ := hrel
    by_cases hi1 : i < c.length
    · have hiI : (i : Int) < (c.length : Int) := by omega
      obtain ⟨ad, rfl, hcell⟩ := Kd.at_int hr (i : Int) (by omega) hiI
      rw [Int.toNat_natCast] at hcell
      have hU := HU.out
      rw [unit_drop T c i hi1] at hU
      have hxi := hx _ (show rd c (i : Int) ∈ c by rw [rd_nat c i hi1]; exact List.getElem_mem hi1)
      have htc := truth_calls h hC _ hxi
      clear HU
      generalize rd c (i : Int) = x at *
      rcases tr_cases T x with ht | ht | ht
      · rw [if_pos ht] at hU
        rw [ht] at htc
        obtain rfl := hU
        go_wp2_with (go_at_call 110; with_reducible refine htc.mono ?_; rintro e w1 ⟨rfl, rfl⟩)
        go_ret2
        exact ⟨rfl, rfl⟩
      · rw [if_neg (by omega), if_neg (by omega)] at hU
        have HU2 := Aside0.mk hU
        rw [ht] at htc
        clear hU
        go_wp2_with (go_at_call 110; with_reducible refine htc.mono ?_; rintro e w1 ⟨rfl, rfl⟩)
        exact ⟨⟨i + 1, l, m, hi1, rfl, rfl, rfl, hm0, hm1, HU2, trivial⟩, by simp [intOf]; omega⟩
      · rw [if_neg (by omega), if_pos ht] at hU
        rw [ht] at htc
        by_cases hm : m = 1
        · subst hm
          rw [if_pos (by decide)] at hU
          obtain rfl := hU
          go_wp2_with (go_at_call 110; with_reducible refine htc.mono ?_; rintro e w1 ⟨rfl, rfl⟩)
          go_ret2
          exact ⟨rfl, rfl⟩
        · obtain rfl : m = 0 := by omega
          rw [if_neg (by decide)] at hU
          have HU2 := Aside0.mk hU
          clear hU hm0 hm1 hm
          go_wp2_with (go_at_call 110; with_reducible refine htc.mono ?_; rintro e w1 ⟨rfl, rfl⟩)
          exact ⟨⟨i + 1, x, 1, hi1, rfl, rfl, rfl, by decide, by decide, HU2, trivial⟩, by simp [intOf]; omega⟩
    · have hiI : ¬ (i : Int) < (c.length : Int) := by omega
      have hU := HU.out
      rw [List.drop_eq_nil_of_le (by omega), unitN] at hU
      obtain rfl := hU
      clear HU
      go_wp2
      go_ret2
      exact ⟨rfl, rfl⟩
end Go.Proofs.Ytohgjbkiemnfnaa.Rup
