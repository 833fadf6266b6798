/- The theory of ranks (order): a literal's atom, and what it says of a rank. Plain words, and walks by hand. (and what follows from it) -/
import Derived.Test.YtcebjhbphcoboaaQQd
import Derived.Test.YtcebjhbphcoboaaXm
import Derived.Test.YtcebjhbphcoboaaFun
import Derived.Test.YtcebjhbphcoboaaLayFn
namespace Go.Proofs.Ytcebjhbphcoboaa.Ato
open Go Go.RowKit Go.Proofs.Ytcebjhbphcoboaa.X Go.Proofs.Ytcebjhbphcoboaa.Hlp Go.Proofs.YtcebjhbphcoboaaW.PrintWords Go.Proofs.YtcebjhbphcoboaaW.PrintLast Go.Proofs.YtcebjhbphcoboaaW.PrintMore Go.Proofs.Ytcebjhbphcoboaa.Aid
attribute [local go_sem] max2_int min2_int max_two min_two
set_option linter.unusedVariables false
set_option linter.unusedSimpArgs false
/-- Is it a literal? Its atom. -/
def litOk (l : List Int) (x : Int) : Bool := decide (1 ≤ x.natAbs ∧ (x.natAbs : Int) ≤ tot l)
def litA (l : List Int) (x : Int) : S111 := if litOk l x = true then (allA l l.length).getD (x.natAbs - 1) ⟨0, 0, 0⟩ else ⟨0, 0, 0⟩
theorem litA_no {l : List Int} {x : Int} (h : litOk l x = false) : litA l x = ⟨0, 0, 0⟩ := by unfold litA; rw [h]; rfl
theorem litA_of {l : List Int} (hn : ∀ n ∈ l, 0 ≤ n) {x v : Int} {a : S111} (hx : (x.natAbs : Int) = v) (h1 : 1 ≤ v) (h2 : v ≤ tot l) (h : atomP l v a) : litOk l x = true ∧ litA l x = a := by
  have hk : litOk l x = true := decide_eq_true ⟨by omega, by omega⟩
  refine ⟨hk, ?_⟩
  obtain ⟨p, hp, h3, h4, rfl⟩ := h
  have := at_var hn p hp v h3 h4
  unfold litA
  rw [if_pos hk, List.getD, show x.natAbs - 1 = (v - 1).toNat by omega, this]; rfl
theorem box_set3 {W : World} {q : Nat} {t : TypeId} {x y z : Value} (h : W.heap[q]? = some (.cells #[x, y, z] t (0, 0))) (a b c : Value) : (((W.setCell ⟨q, 0, none⟩ a).setCell ⟨q, 1, none⟩ b).setCell ⟨q, 2, none⟩ c).heap[q]? = some (.cells #[a, b, c] t (0, 0)) :=
  blk_put (cs' := #[a, b, c]) (blk_put (cs' := #[a, b, z]) (blk_put (cs' := #[a, y, z]) h 0 a rfl) 1 b rfl) 2 c rfl
theorem below_set3 {w w1 : World} (h : Below w.heap.size w w1) (a b c : Value) : Below w.heap.size w (((w1.setCell ⟨w.heap.size, 0, none⟩ a).setCell ⟨w.heap.size, 1, none⟩ b).setCell ⟨w.heap.size, 2, none⟩ c) := by
  have hs := h.size
  refine ((h.grown (grown_set _ w.heap.size 0 _) hs (by rintro q ⟨⟩; exact Nat.le_refl _)).grown (grown_set _ w.heap.size 1 _) (by simp; omega) (by rintro q ⟨⟩; exact Nat.le_refl _)).grown (grown_set _ w.heap.size 2 _) (by simp; omega) (by rintro q ⟨⟩; exact Nat.le_refl _)
set_option maxHeartbeats 1000000 in
set_option maxRecDepth 100000 in
theorem lit_calls {w : World} {base g : Nat} {l : List Int} (h : AT w base g l) (x : Int) (hx : -9223372036854775808 ≤ x ∧ x ≤ 9223372036854775807) (hl4 : l.length ≤ 4096) (hn : ∀ n ∈ l, 0 ≤ n ∧ n ≤ 16777216) (ht : tot l ≤ 16777216) :
    Calls Try.prog 76 #[.pointer (some ⟨g, 0, none⟩), .int .i64 x] w fun e w' => e = .returned (.tuple #[.agg #[.int .i64 (litA l x).f0, .int .i64 (litA l x).f1, .int .i64 (litA l x).f2], .bool (decide (0 < x)), .bool (litOk l x)]) ∧ Below w.heap.size w w' := by
  have hB : Below w.heap.size w (w.alloc (.cells #[.int .i64 0, .int .i64 0, .int .i64 0] 111)) := (Below.refl _ _).alloc (Nat.le_refl _) _
  have hbk := blk_new w (.cells #[.int .i64 0, .int .i64 0, .int .i64 0] 111)
  have hv := fun W (hb : Below w.heap.size w W) => vars_calls (h.below hb)
  have ht0 := tot_nonneg fun n hm => (hn n hm).1
  have hno := fun (v : Int) (hv : v < 1 ∨ tot l < v) W (hb : Below w.heap.size w W) => atom_none (h.below hb) v hv
  have hyes := fun (v : Int) (hv1 : 1 ≤ v) (hv2 : v ≤ tot l) W (hb : Below w.heap.size w W) => atom_calls (h.below hb) v hl4 hn ht hv1 hv2
  have hof := fun (v : Int) (a : S111) => @litA_of l (fun n h => (hn n h).1) x v a
  have hlk : ∀ b : Prop, [Decidable b] → ((1 ≤ x.natAbs ∧ (x.natAbs : Int) ≤ tot l) ↔ b) → litOk l x = decide b := fun b _ hb => by unfold litOk; exact decide_eq_decide.mpr hb
  have hA0 := @litA_no l x
  generalize litA l x = A at *
  generalize litOk l x = K at *
  generalize tot l = T at *
  by_cases h1 : x < -T
  · obtain rfl : K = false := by rw [hlk False ⟨fun h => by omega, False.elim⟩]; rfl
    obtain rfl := hA0 rfl
    have h2 : decide (0 < x) = false := decide_eq_false (by omega)
    rw [h2]
    clear hof hlk hA0 hyes hno
    go_enter Try.func76, Try.ntmps76
    go_wp2_with (first
      | (go_at_call 88; with_reducible refine (hv _ hB).mono ?_; rintro e w1 ⟨rfl, hw⟩; obtain rfl := hw))
    refine bodyPost_ret (results_ctt rfl _ _ w.heap.size 111 #[.int .i64 0, .int .i64 0, .int .i64 0] (0, 0) _ rfl hbk Try.underlying111 rfl rfl) rfl ?_
    exact ⟨rfl, hB⟩
  by_cases hs : 0 < x
  · by_cases h2 : T < x
    · obtain rfl : K = false := by rw [hlk False ⟨fun h => by omega, False.elim⟩]; rfl
      obtain rfl := hA0 rfl
      have hcl := hno (x) (by omega)
      have hsd : decide (0 < x) = true := decide_eq_true hs
      rw [hsd]
      clear hlk hA0 hyes hno hof
      go_enter Try.func76, Try.ntmps76
      go_wp2_with (first
        | (go_at_call 88; with_reducible refine (hv _ hB).mono ?_; rintro e w1 ⟨rfl, hw⟩; obtain rfl := hw)
        | (go_at_call 95; with_reducible refine (hcl _ hB).mono ?_; rintro e w2 ⟨rfl, hB2⟩; have hbk2 := blk_below hbk hB2; have z0 := cell_far hbk2 0 _ rfl; have z1 := cell_far hbk2 1 _ rfl; have z2 := cell_far hbk2 2 _ rfl; have f0 := blk_frozen hbk2 0; have f1 := blk_frozen hbk2 1; have f2 := blk_frozen hbk2 2))
      refine bodyPost_ret (results_ctt rfl _ _ w.heap.size 111 #[.int .i64 0, .int .i64 0, .int .i64 0] (0, 0) _ rfl (box_set3 (box_set3 hbk2 _ _ _) _ _ _) Try.underlying111 rfl rfl) rfl ?_
      exact ⟨rfl, below_set3 (below_set3 (hB.trans (hB2.mono hB.size)) _ _ _) _ _ _⟩
    · have hcl := hyes (x) (by omega) (by omega)
      have hof := fun a => hof (x) a (by omega) (by omega) (by omega)
      have hsd : decide (0 < x) = true := decide_eq_true hs
      rw [hsd]
      clear hlk hA0 hyes hno
      go_enter Try.func76, Try.ntmps76
      go_wp2_with (first
        | (go_at_call 88; with_reducible refine (hv _ hB).mono ?_; rintro e w1 ⟨rfl, hw⟩; obtain rfl := hw)
        | (go_at_call 95; with_reducible refine (hcl _ hB).mono ?_; rintro e w2 ⟨a, hAt, rfl, hB2⟩; have hbk2 := blk_below hbk hB2; have z0 := cell_far hbk2 0 _ rfl; have z1 := cell_far hbk2 1 _ rfl; have z2 := cell_far hbk2 2 _ rfl; have f0 := blk_frozen hbk2 0; have f1 := blk_frozen hbk2 1; have f2 := blk_frozen hbk2 2))
      obtain ⟨hK, hA⟩ := hof a hAt
      subst hK hA
      refine bodyPost_ret (results_ctt rfl _ _ w.heap.size 111 #[.int .i64 A.f0, .int .i64 A.f1, .int .i64 A.f2] (0, 0) _ rfl (box_set3 (box_set3 hbk2 _ _ _) _ _ _) Try.underlying111 rfl rfl) rfl ?_
      exact ⟨rfl, below_set3 (below_set3 (hB.trans (hB2.mono hB.size)) _ _ _) _ _ _⟩
  · by_cases hz : x = 0
    · subst hz
      obtain rfl : K = false := by rw [hlk False ⟨fun h => by omega, False.elim⟩]; rfl
      obtain rfl := hA0 rfl
      have hcl := hno 0 (by omega)
      have hsd : decide (0 < (0 : Int)) = false := decide_eq_false hs
      rw [hsd]
      clear hlk hA0 hyes hno hof
      go_enter Try.func76, Try.ntmps76
      go_wp2_with (first
        | (go_at_call 88; with_reducible refine (hv _ hB).mono ?_; rintro e w1 ⟨rfl, hw⟩; obtain rfl := hw)
        | (go_at_call 95; with_reducible refine (hcl _ hB).mono ?_; rintro e w2 ⟨rfl, hB2⟩; have hbk2 := blk_below hbk hB2; have z0 := cell_far hbk2 0 _ rfl; have z1 := cell_far hbk2 1 _ rfl; have z2 := cell_far hbk2 2 _ rfl; have f0 := blk_frozen hbk2 0; have f1 := blk_frozen hbk2 1; have f2 := blk_frozen hbk2 2))
      refine bodyPost_ret (results_ctt rfl _ _ w.heap.size 111 #[.int .i64 0, .int .i64 0, .int .i64 0] (0, 0) _ rfl (box_set3 (box_set3 hbk2 _ _ _) _ _ _) Try.underlying111 rfl rfl) rfl ?_
      exact ⟨rfl, below_set3 (below_set3 (hB.trans (hB2.mono hB.size)) _ _ _) _ _ _⟩
    by_cases h2 : T < -x
    · omega
    · have hcl := hyes (-x) (by omega) (by omega)
      have hof := fun a => hof (-x) a (by omega) (by omega) (by omega)
      have hsd : decide (0 < x) = false := decide_eq_false hs
      rw [hsd]
      clear hlk hA0 hyes hno
      have hsn : x < -x := by omega
      go_enter Try.func76, Try.ntmps76
      go_wp2_with (first
        | (go_at_call 88; with_reducible refine (hv _ hB).mono ?_; rintro e w1 ⟨rfl, hw⟩; obtain rfl := hw)
        | (go_at_call 95; with_reducible refine (hcl _ hB).mono ?_; rintro e w2 ⟨a, hAt, rfl, hB2⟩; have hbk2 := blk_below hbk hB2; have z0 := cell_far hbk2 0 _ rfl; have z1 := cell_far hbk2 1 _ rfl; have z2 := cell_far hbk2 2 _ rfl; have f0 := blk_frozen hbk2 0; have f1 := blk_frozen hbk2 1; have f2 := blk_frozen hbk2 2))
      obtain ⟨hK, hA⟩ := hof a hAt
      subst hK hA
      refine bodyPost_ret (results_ctt rfl _ _ w.heap.size 111 #[.int .i64 A.f0, .int .i64 A.f1, .int .i64 A.f2] (0, 0) _ rfl (box_set3 (box_set3 hbk2 _ _ _) _ _ _) Try.underlying111 rfl rfl) rfl ?_
      exact ⟨rfl, below_set3 (below_set3 (hB.trans (hB2.mono hB.size)) _ _ _) _ _ _⟩
end Go.Proofs.Ytcebjhbphcoboaa.Ato
namespace Go.Proofs.Ytcebjhbphcoboaa.Ato
open Go Go.RowKit Go.Proofs.Ytcebjhbphcoboaa.X Go.Proofs.Ytcebjhbphcoboaa.Hlp Go.Proofs.YtcebjhbphcoboaaW.PrintWords Go.Proofs.YtcebjhbphcoboaaW.PrintLast Go.Proofs.YtcebjhbphcoboaaW.PrintMore Go.Proofs.Ytcebjhbphcoboaa.Aid
attribute [local go_sem] max2_int min2_int max_two min_two
set_option linter.unusedVariables false
set_option linter.unusedSimpArgs false
/-- Is an atom true of a rank? Is a literal? -/
def tr1 (a : S111) (r : Int) : Bool := if a.f0 = 0 then decide (0 ≤ r) else if a.f0 = 1 then decide (r ≤ a.f2) else r == a.f2
def agree (l : List Int) (r x : Int) : Bool := tr1 (litA l x) r == decide (0 < x)
/-- The ranks, from none on; those that all literals allow. -/
def ranks (k : Nat) : List Int := (List.range k).map fun (i : Nat) => (i : Int) - 1
def alwK (l L : List Int) (k : Nat) : List Int := (ranks k).filter fun r => L.all (agree l r)
def alw (l : List Int) (p : Int) (L : List Int) : List Int := alwK l L ((sizeP l p).toNat + 1)
theorem ranks_succ (k : Nat) : ranks (k + 1) = ranks k ++ [(k : Int) - 1] := by simp [ranks, List.range_succ]
theorem alwK_succ (l L : List Int) (k : Nat) : alwK l L (k + 1) = if L.all (agree l ((k : Int) - 1)) = true then alwK l L k ++ [(k : Int) - 1] else alwK l L k := by
  unfold alwK
  rw [ranks_succ, List.filter_append]
  by_cases h : L.all (agree l ((k : Int) - 1)) = true
  · rw [if_pos h]; simp [List.filter_cons, h]
  · rw [if_neg h]; simp [List.filter_cons, h]
theorem alwK_len (l L : List Int) (k : Nat) : (alwK l L k).length ≤ k := by
  refine Nat.le_trans (List.length_filter_le _ _) ?_
  simp [ranks]
theorem tr1_calls (a : S111) (r : Int) (w : World) : Calls Try.prog 100 #[.agg #[.int .i64 a.f0, .int .i64 a.f1, .int .i64 a.f2], .int .i64 r] w fun e w' => e = .returned (.bool (tr1 a r)) ∧ Below w.heap.size w w' := by
  refine order_true1.calls a.f0 a.f1 a.f2 r (tr1 a r) w ?_
  unfold order_true1.f tr1
  split
  · rfl
  · split <;> rfl
set_option maxHeartbeats 1000000 in
set_option maxRecDepth 100000 in
theorem clo_calls {W : World} {base g : Nat} {l : List Int} (h : AT W base g l) (x r : Int) (BT BR : Nat) (hT : W.cell? ⟨BT, 0, none⟩ = some (.pointer (some ⟨g, 0, none⟩))) (hR : W.cell? ⟨BR, 0, none⟩ = some (.int .i64 r)) (hx : -9223372036854775808 ≤ x ∧ x ≤ 9223372036854775807) (hl4 : l.length ≤ 4096) (hn : ∀ n ∈ l, 0 ≤ n ∧ n ≤ 16777216) (ht : tot l ≤ 16777216) :
    Calls Try.prog 99 (#[.int .i64 x] ++ #[.pointer (some ⟨BT, 0, none⟩), .pointer (some ⟨BR, 0, none⟩)]) W fun e W' => e = .returned (.bool (!agree l r x)) ∧ Below W.heap.size W W' := by
  have hl := fun V (hb : Below W.heap.size W V) => lit_calls (h.below hb) x hx hl4 hn ht
  have ht1 := fun V => tr1_calls (litA l x) r V
  unfold agree
  generalize tr1 (litA l x) r = t at *
  generalize litA l x = A at *
  generalize litOk l x = K at *
  generalize decide (0 < x) = y at *
  show Calls Try.prog 99 #[.int .i64 x, .pointer (some ⟨BT, 0, none⟩), .pointer (some ⟨BR, 0, none⟩)] W _
  go_enter Try.func99, Try.ntmps99
  go_wp2_with (first
    | (go_at_call 76; with_reducible refine (hl _ (Below.refl _ _)).mono ?_; rintro e w1 ⟨rfl, hB1⟩; have hBa : Below W.heap.size W (w1.alloc (.cells #[.int .i64 A.f0, .int .i64 A.f1, .int .i64 A.f2] 111)) := hB1.alloc hB1.size _; have hR1 := cell_below' hR hBa; obtain ⟨z0, z1, z2⟩ := box_cells w1 (.int .i64 A.f0) (.int .i64 A.f1) (.int .i64 A.f2))
    | (go_at_call 100; with_reducible refine (ht1 _).mono ?_; rintro e w2 ⟨rfl, hB2⟩))
  go_ret
  exact ⟨rfl, hBa.trans (hB2.mono hBa.size)⟩
theorem any_calls {W : World} {base g : Nat} {l : List Int} (h : AT W base g l) (A : Option Addr) (c : Nat) (L : List Int) (hr : Kd.C (Kd.int .i64) W A L.length L) (r : Int) (BT BR : Nat) (hT : W.cell? ⟨BT, 0, none⟩ = some (.pointer (some ⟨g, 0, none⟩))) (hR : W.cell? ⟨BR, 0, none⟩ = some (.int .i64 r)) (hx : ∀ x ∈ L, -9223372036854775808 ≤ x ∧ x ≤ 9223372036854775807) (hl4 : l.length ≤ 4096) (hn : ∀ n ∈ l, 0 ≤ n ∧ n ≤ 16777216) (ht : tot l ≤ 16777216) :
    Calls Try.prog 98 #[.slice A L.length c, .func (.func 99) #[] #[.pointer (some ⟨BT, 0, none⟩), .pointer (some ⟨BR, 0, none⟩)]] W fun e W' => e = .returned (.bool (!L.all (agree l r))) ∧ Below W.heap.size W W' := by
  have eg : ∀ args w, (callFunc 99 args).run Try.prog w = .ok (.enter 99 args) w := enters_of Try.func99 (by kernel_rfl) rfl
  have hcon := Fun.contains_func Try.contains_int (Kd.int .i64) rfl (fun x => !agree l r x) 99 #[.pointer (some ⟨BT, 0, none⟩), .pointer (some ⟨BR, 0, none⟩)] eg A c L W hr
    (fun x hxL u hu V hb => by have hu' : [u] = [Value.int .i64 x] := hu; obtain rfl := (List.cons.inj hu').1; exact clo_calls (h.below hb) x r BT BR (cell_below' hT hb) (cell_below' hR hb) (hx x hxL) hl4 hn ht)
  rw [show (L.any fun x => !agree l r x) = !L.all (agree l r) by rw [List.not_all_eq_any_not]] at hcon
  exact hcon
set_option maxHeartbeats 4000000 in
set_option maxRecDepth 100000 in
theorem allowed_calls {w : World} {base g : Nat} {l : List Int} (h : AT w base g l) (p : Int) (A : Option Addr) (c : Nat) (L : List Int) (hr : Kd.C (Kd.int .i64) w A L.length L) (hc : L.length ≤ c) (hx : ∀ x ∈ L, -9223372036854775808 ≤ x ∧ x ≤ 9223372036854775807) (hl4 : l.length ≤ 4096) (hn : ∀ n ∈ l, 0 ≤ n ∧ n ≤ 16777216) (ht : tot l ≤ 16777216) :
    Calls Try.prog 79 #[.pointer (some ⟨g, 0, none⟩), .int .i64 p, .slice A L.length c] w fun e w' => ∃ v, e = .returned v ∧ w'.ownsRow w.heap.size 3 1 v (alw l p L).length (ints (alw l p L)) ∧ Below w.heap.size w w' := by
  obtain ⟨i0, hi, hz0, hz1, hz2⟩ := info_parts info3'
  have hsz := fun W (hb : Below w.heap.size w W) => size_calls (h.below hb) p
  have hs0 : 0 ≤ sizeP l p := by
    unfold sizeP
    split
    · rename_i hp
      exact (hn _ (by rw [List.getD, List.getElem?_eq_getElem (by omega)]; exact List.getElem_mem _)).1
    · exact Int.le_refl 0
  have hs1 : sizeP l p ≤ 16777216 := by
    unfold sizeP
    split
    · rename_i hp
      exact (hn _ (by rw [List.getD, List.getElem?_eq_getElem (by omega)]; exact List.getElem_mem _)).2
    · omega
  unfold alw
  generalize sizeP l p = sz at *
  go_enter Try.func79, Try.ntmps79
  go_wp2
  have hB0 : Below w.heap.size w ((w.alloc (.cells #[.pointer (some ⟨g, 0, none⟩)] 71)).alloc (.cells #[.int .i64 (-1)] 3)) := ((Below.refl _ _).alloc (Nat.le_refl _) _).alloc (by simp) _
  have hT0 := blk_alloc (blk_new w (.cells #[.pointer (some ⟨g, 0, none⟩)] 71)) (.cells #[.int .i64 (-1)] 3)
  have hR0 := blk_new (w.alloc (.cells #[.pointer (some ⟨g, 0, none⟩)] 71)) (.cells #[.int .i64 (-1)] 3)
  go_loopw [7, 8] (fun v7 v8 wr => ∃ (k BR : Nat), k ≤ sz.toNat + 1 ∧ v8 = .pointer (some ⟨BR, 0, none⟩) ∧ w.heap.size < BR ∧ wr.heap[BR]? = some (.cells #[.int .i64 ((k : Int) - 1)] 3 (0, 0)) ∧ wr.heap[w.heap.size]? = some (.cells #[.pointer (some ⟨g, 0, none⟩)] 71 (0, 0)) ∧ some BR ≠ v7.ownBlock ∧ wr.ownsRow (w.heap.size + 1) 3 1 v7 (alwK l L k).length (ints (alwK l L k)) ∧ Below w.heap.size w wr)
    (fun _ v8 wr => match v8 with | .pointer (some a) => (match wr.cell? a with | some (.int _ r) => (sz - r).toNat | _ => 0) | _ => 0)
  case atStart => exact ⟨0, w.heap.size + 1, Nat.zero_le _, by simp, by omega, by simpa using hR0, hT0, by simp [Value.ownBlock], World.ownsRow_nil _ _ _ _, hB0⟩
  case round =>
    obtain ⟨k, BR, hk, rfl, hBR, hbr, hbt, hne, hown, hB⟩ := hrel
    obtain ⟨p7, c7, rfl⟩ := Hlp.own_slice hown
    have z8 := GW.cell (cell_far hbr 0 _ rfl)
    have z3 := GW.cell (cell_far hbt 0 _ rfl)
    by_cases hk1 : k < sz.toNat + 1
    · have hkI : (k : Int) - 1 < sz := by omega
      go_wp2_with fail
      refine wp_region_grown (by kernel_rfl) (by kernel_rfl) ?_
      repeat (first | go_big_quiet_step (first | (go_at_call 97; exact Hlp.Calls.grown _ (hsz _ (GW.below hB _)))) | quiet_step (fail))
      refine wpQuiet_nil ?_
      rintro W8 ⟨⟨W, hW8⟩, rfl⟩
      clear z8 z3
      have hmb := Aside0.mk (cell_far hbr 0 (.int .i64 ((k : Int) - 1)) rfl)
      have hB8 := hB.trans (hW8.mono hB.size)
      have hbr8 := blk_below hbr hW8
      have hbt8 := blk_below hbt hW8
      have hown8 := Hlp.own_below hown hW8
      have hBR8 := Nat.lt_of_lt_of_le (blk_lt hbr) hW8.size
      clear hbr hbt hown hB
      have hall := any_calls (h.below hB8) A c L (Kd.C_below hr hB8) ((k : Int) - 1) w.heap.size BR (cell_far hbt8 0 _ rfl) (cell_far hbr8 0 _ rfl) hx hl4 hn ht
      have hks := alwK_succ l L k
      have hkl := alwK_len l L k
      by_cases hb : L.all (agree l ((k : Int) - 1)) = true
      · rw [hb] at hall
        rw [if_pos hb] at hks
        clear hb
        go_wp2_with (first
          | (go_at_call 98; with_reducible refine hall.mono ?_; rintro e w2 ⟨rfl, hB2⟩; have hBw2 := hB8.trans (hB2.mono hB8.size); have hbr2 := blk_below hbr8 hB2; have hbt2 := blk_below hbt8 hB2; have hown2 := Hlp.own_below hown8 hB2; have c8 := cell_far hbr2 0 _ rfl)
          | (at_builtin; refine wpList_append_own_at _ rfl _ _ 46 rfl (w.heap.size + 1) 3 i0 (.int .i64 0) 1 8 Try.underlying46 hi hz0 hz1 hz2 rfl (by decide) _ _ _ rfl (hown2.alloc _) ⟨w2.heap.size, 0, none⟩ 1 1 [.int .i64 ((k : Int) - 1)] rfl rfl (cell_one_new _ _ _) (by simp [Value.oneCell']) (by unfold maxLen; omega) (by omega) (by have := hBw2.size; have := hB2.size; simp; omega) ?_; intro v3 w3 hown3 hgrow3 hnil3 hblk3; have hbr3 := blk_grown (blk_alloc hbr2 _) hgrow3 hne; have c3 := cell_far hbr3 0 _ rfl))
        have hs2 := hBw2.size
        have hs3 := hgrow3.size
        simp at hs3
        have hneT : some w.heap.size ≠ (Value.slice p7 (alwK l L k).length c7).ownBlock := fun e => by have := (hown2.lt _ e.symm).1; omega
        have hbt3 := blk_grown (blk_alloc hbt2 (.cells #[.int .i64 ((k : Int) - 1)] 3)) hgrow3 hneT
        have hk2 : ((k + 1 : Nat) : Int) - 1 = (k : Int) := by omega
        refine ⟨⟨k + 1, w3.heap.size, by omega, rfl, by omega, by rw [hk2]; exact blk_new w3 _, blk_alloc hbt3 _, fun e => by have := (hown3.lt _ e.symm).2; omega, ?_, ?_⟩, ?_⟩
        · rw [hks]; simpa [ints] using hown3.alloc (.cells #[.int .i64 (k : Int)] 3)
        · refine ((hBw2.alloc (by omega) _).grown hgrow3 (by simp; omega) (fun q e => by have := (hown2.lt _ e).1; omega)).alloc (by omega) _
        · have e1 : (w3.alloc (.cells #[.int .i64 (k : Int)] 3)).cell? ⟨w3.heap.size, 0, none⟩ = some (.int .i64 (k : Int)) := cell_far (blk_new w3 _) 0 _ rfl
          simp only [e1, hmb.out]; omega
      · rw [Bool.not_eq_true] at hb
        rw [hb] at hall
        rw [hb, if_neg (by decide)] at hks
        clear hb
        go_wp2_with (first
          | (go_at_call 98; with_reducible refine hall.mono ?_; rintro e w2 ⟨rfl, hB2⟩; have hBw2 := hB8.trans (hB2.mono hB8.size); have hbr2 := blk_below hbr8 hB2; have hbt2 := blk_below hbt8 hB2; have hown2 := Hlp.own_below hown8 hB2; have c8 := cell_far hbr2 0 _ rfl))
        have hs2 := hBw2.size
        have hk2 : ((k + 1 : Nat) : Int) - 1 = (k : Int) := by omega
        have hsz2 := blk_lt hbt2
        refine ⟨⟨k + 1, w2.heap.size, by omega, rfl, by omega, by rw [hk2]; exact blk_new w2 _, blk_alloc hbt2 _, fun e => by have := (hown2.lt _ e.symm).2; omega, ?_, ?_⟩, ?_⟩
        · rw [hks]; exact hown2.alloc _
        · exact hBw2.alloc (by omega) _
        · have e1 : (w2.alloc (.cells #[.int .i64 (k : Int)] 3)).cell? ⟨w2.heap.size, 0, none⟩ = some (.int .i64 (k : Int)) := cell_far (blk_new w2 _) 0 _ rfl
          simp only [e1, hmb.out]; omega
    · have hkI : ¬ (k : Int) - 1 < sz := by omega
      obtain rfl : k = sz.toNat + 1 := by omega
      go_wp2_with fail
      have hneg : ¬ ((sz.toNat + 1 : Nat) : Int) - 1 < sz := by omega
      refine wp_region_grown (by kernel_rfl) (by kernel_rfl) ?_
      repeat (first | go_big_quiet_step (first | (go_at_call 97; exact Hlp.Calls.grown _ (hsz _ (GW.below hB _)))) | quiet_step (fail))
      refine wpQuiet_nil ?_
      rintro W8 ⟨⟨W, hW8⟩, rfl⟩
      go_wp2
      go_ret
      exact ⟨_, rfl, Hlp.own_base (Hlp.own_below hown hW8) (by omega), hB.trans (hW8.mono hB.size)⟩
end Go.Proofs.Ytcebjhbphcoboaa.Ato
namespace Go.Proofs.Ytcebjhbphcoboaa.Ato
open Go Go.RowKit Go.Proofs.Ytcebjhbphcoboaa.X Go.Proofs.Ytcebjhbphcoboaa.Hlp Go.Proofs.YtcebjhbphcoboaaW.PrintWords Go.Proofs.YtcebjhbphcoboaaW.PrintLast Go.Proofs.YtcebjhbphcoboaaW.PrintMore Go.Proofs.Ytcebjhbphcoboaa.Aid
attribute [local go_sem] max2_int min2_int max_two min_two
set_option linter.unusedVariables false
set_option linter.unusedSimpArgs false
/-- The literals of a package. -/
def ofL (l : List Int) (p : Int) (L : List Int) : List Int := L.filter fun x => (litA l x).f1 == p
theorem ofL_take (l : List Int) (p : Int) (L : List Int) (k : Nat) (hk : k < L.length) : ofL l p (L.take (k + 1)) = if (litA l L[k]).f1 == p then ofL l p (L.take k) ++ [L[k]] else ofL l p (L.take k) := by
  unfold ofL
  rw [List.take_succ_eq_append_getElem hk, List.filter_append]
  by_cases h : ((litA l L[k]).f1 == p) = true
  · rw [if_pos h]; simp [List.filter_cons, h]
  · rw [if_neg h]; simp [List.filter_cons, h]
theorem ofL_len (l : List Int) (p : Int) (L : List Int) : (ofL l p L).length ≤ L.length := List.length_filter_le _ _
theorem cell_one_new' (w : World) (o : Obj) (x : Value) (t : TypeId) : ∀ j u, [x][j]? = some u → ((w.alloc o).alloc (.cells #[x] t)).cell? ((⟨w.heap.size + 1, 0, none⟩ : Addr).add j) = some u := by
  have := cell_one_new (w.alloc o) x t
  rwa [show (w.alloc o).heap.size = w.heap.size + 1 by simp] at this
set_option maxHeartbeats 1000000 in
set_option maxRecDepth 100000 in
theorem of_calls {w : World} {base g : Nat} {l : List Int} (h : AT w base g l) (p : Int) (A : Option Addr) (c : Nat) (L : List Int) (hr : Kd.C (Kd.int .i64) w A L.length L) (hc : L.length ≤ c) (hL : L.length ≤ 1000) (hx : ∀ x ∈ L, -9223372036854775808 ≤ x ∧ x ≤ 9223372036854775807) (hl4 : l.length ≤ 4096) (hn : ∀ n ∈ l, 0 ≤ n ∧ n ≤ 16777216) (ht : tot l ≤ 16777216) :
    Calls Try.prog 78 #[.pointer (some ⟨g, 0, none⟩), .int .i64 p, .slice A L.length c] w fun e w' => ∃ v, e = .returned v ∧ w'.ownsRow w.heap.size 3 1 v (ofL l p L).length (ints (ofL l p L)) ∧ Below w.heap.size w w' := by
  obtain ⟨i0, hi, hz0, hz1, hz2⟩ := info_parts info3'
  have hlit := fun x hx W (hb : Below w.heap.size w W) => lit_calls (h.below hb) x hx hl4 hn ht
  go_enter Try.func78, Try.ntmps78
  go_wp2
  go_loopw [7, 15] (fun v7 v15 wr => ∃ k : Nat, k ≤ L.length ∧ v15 = .int .i64 k ∧ wr.ownsRow w.heap.size 3 1 v7 (ofL l p (L.take k)).length (ints (ofL l p (L.take k))) ∧ Below w.heap.size w wr)
    (fun _ v15 _ => L.length - (intOf v15).toNat)
  case atStart => exact ⟨0, Nat.zero_le _, rfl, World.ownsRow_nil _ _ _ _, Below.refl _ _⟩
  case round =>
    obtain ⟨k, hk, rfl, hown, hB⟩ := hrel
    obtain ⟨p7, c7, rfl⟩ := Hlp.own_slice hown
    by_cases hk1 : k < L.length
    · have hkI : (k : Int) < (L.length : Int) := by omega
      obtain ⟨ad, rfl, hcell0⟩ := Kd.at_int (Kd.C_below hr hB) (k : Int) (by omega) hkI
      rw [Int.toNat_natCast, show rd L (k : Int) = L[k] from by simp [rd, hk1]] at hcell0
      have hxk := hx _ (List.getElem_mem hk1)
      have hlk := fun W hb => hlit L[k] hxk W hb
      have hot := ofL_take l p L k hk1
      have hol := ofL_len l p (L.take k)
      rw [List.length_take] at hol
      generalize L[k] = x at hcell0 hxk hlk hot
      generalize litA l x = A at hlk hot
      generalize litOk l x = K at hlk
      by_cases hb : (A.f1 == p) = true
      · rw [if_pos hb] at hot
        go_wp2_with (first
          | (go_at_call 76; with_reducible refine (hlk _ hB).mono ?_; rintro e w2 ⟨rfl, hB2⟩; have hBw2 := hB.trans (hB2.mono hB.size); have hown2 := Hlp.own_below hown hB2; obtain ⟨z0, z1, z2⟩ := box_cells w2 (.int .i64 A.f0) (.int .i64 A.f1) (.int .i64 A.f2))
          | (at_builtin; refine wpList_append_own_at _ rfl _ _ 46 rfl w.heap.size 3 i0 (.int .i64 0) 1 8 Try.underlying46 hi hz0 hz1 hz2 rfl (by decide) _ _ _ rfl ((hown2.alloc _).alloc _) ⟨w2.heap.size + 1, 0, none⟩ 1 1 [.int .i64 x] rfl rfl (cell_one_new' _ _ _ _) (by simp [Value.oneCell']) (by unfold maxLen; omega) (by omega) (by have := hBw2.size; have := hB2.size; simp; omega) ?_; intro v3 w3 hown3 hgrow3 hnil3 hblk3))
        refine ⟨⟨k + 1, by omega, rfl, ?_, ?_⟩, by simp [intOf]; omega⟩
        · rw [hot]; simpa [ints] using hown3
        · exact ((hBw2.alloc hBw2.size _).alloc (by have := hBw2.size; simp; omega) _).grown hgrow3 (by have := hBw2.size; simp; omega) (fun q e => (hown2.lt _ e).1)
      · rw [if_neg hb] at hot
        have hbf : (A.f1 == p) = false := by simpa using hb
        clear hb
        go_wp2_with (first
          | (go_at_call 76; with_reducible refine (hlk _ hB).mono ?_; rintro e w2 ⟨rfl, hB2⟩; have hBw2 := hB.trans (hB2.mono hB.size); have hown2 := Hlp.own_below hown hB2; obtain ⟨z0, z1, z2⟩ := box_cells w2 (.int .i64 A.f0) (.int .i64 A.f1) (.int .i64 A.f2)))
        refine ⟨⟨k + 1, by omega, rfl, ?_, ?_⟩, by simp [intOf]; omega⟩
        · rw [hot]; exact hown2.alloc _
        · exact hBw2.alloc hBw2.size _
    · have hkI : ¬ (k : Int) < (L.length : Int) := by omega
      obtain rfl : k = L.length := by omega
      rw [List.take_length] at hown
      go_wp2
      go_ret
      exact ⟨_, rfl, hown, hB⟩
end Go.Proofs.Ytcebjhbphcoboaa.Ato
