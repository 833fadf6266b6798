/- The table of atoms, in the numbers of this translation: what was made, how many variables, packages, ranks. Walks by hand. (and what follows from it) -/
import Derived.Test.YtcebjhbphcoboaaQGrw
import Derived.Test.YtcebjhbphcoboaaQa
import Derived.Test.YtcebjhbphcoboaaAid
import Derived.Test.YtcebjhbphcoboaaXm
import Derived.Test.YtcebjhbphcoboaaXn36
import Derived.Test.YtcebjhbphcoboaaLab
import Derived.WalkLawsBesides
namespace Go.Proofs.Ytcebjhbphcoboaa.Ato
open Go Go.RowKit Go.Proofs.Ytcebjhbphcoboaa.X Go.Proofs.Ytcebjhbphcoboaa.Hlp Go.Proofs.YtcebjhbphcoboaaW.PrintWords Go.Proofs.YtcebjhbphcoboaaW.PrintLast Go.Proofs.YtcebjhbphcoboaaW.PrintMore Go.Proofs.Ytcebjhbphcoboaa.Aid
attribute [local go_sem] max2_int min2_int max_two min_two
set_option linter.unusedVariables false
set_option linter.unusedSimpArgs false
theorem cell_below' {w W : World} {a : Addr} {v : Value} (h : w.cell? a = some v) (hb : Below w.heap.size w W) : W.cell? a = some v := cell_below h hb
/-- Where a package begins. -/
def beg (l : List Int) (p : Nat) : Int := tot (l.take p) + 1
theorem box_cells (w : World) (a b c : Value) : (w.alloc (.cells #[a, b, c] 111)).cell? ⟨w.heap.size, 0, none⟩ = some a ∧ (w.alloc (.cells #[a, b, c] 111)).cell? ⟨w.heap.size, 1, none⟩ = some b ∧ (w.alloc (.cells #[a, b, c] 111)).cell? ⟨w.heap.size, 2, none⟩ = some c :=
  ⟨cell_far (blk_new w _) 0 _ rfl, cell_far (blk_new w _) 1 _ rfl, cell_far (blk_new w _) 2 _ rfl⟩
theorem own_of_R {w : World} {base : Nat} {ok : Nat → Prop} {v : Value} {l : List Int} (h : Kd.R (Kd.int .i64) 3 w base ok v l) : w.ownsRow base 3 1 v l.length (ints l) := by
  obtain ⟨h0, inner, ho, hr⟩ := h
  obtain rfl := Kd.reps_encs hr
  exact ho
theorem new_ints (xs : List Int) (t : Nat) (W : World) (hl : xs.length ≤ 9223372036854775807) : (Kd.int .i64).C (W.alloc (.cells (ints xs).toArray t)) (some ⟨W.heap.size, 0, none⟩) xs.length xs := by
  refine ⟨rfl, hl, fun _ => ⟨_, rfl, fun j p hj => ⟨[.int .i64 p], rfl, rfl, fun i u hu => ?_⟩⟩⟩
  cases i with
  | succ i => simp at hu
  | zero =>
    obtain rfl : Value.int .i64 p = u := by simpa using hu
    have hn := heap_alloc_new W (.cells (ints xs).toArray t)
    show (W.alloc (.cells (ints xs).toArray t)).cell? ((⟨W.heap.size, 0, none⟩ : Addr).add (j * 1 + 0)) = _
    rw [show j * 1 + 0 = j by omega, show (⟨W.heap.size, 0, none⟩ : Addr).add j = ⟨W.heap.size, 0 + j, none⟩ from by unfold Addr.add; split <;> simp_all]
    simp only [World.cell?, hn]
    simp [ints, hj]
/-- A table is made. -/
theorem made (A : Option Addr) (c : Nat) (l : List Int) (w : World) (hr : Kd.C (Kd.int .i64) w A l.length l) (hc : l.length ≤ c) (hl : l.length ≤ 4096) (hn : ∀ n ∈ l, 0 ≤ n ∧ n ≤ 16777216) (ht : tot l ≤ 16777216) :
    Calls Try.prog 40 #[.slice A l.length c] w fun e w' => ∃ g, e = .returned (.pointer (some ⟨g, 0, none⟩)) ∧ AT w' w.heap.size g l ∧ Below w.heap.size w w' := by
  refine new_calls A c l w hr hc hl hn ht ((slices_Clone_int_int.calls A c l l w hr hc ?_).mono fun e w' ⟨v, he, hR, hB⟩ => ⟨v, he, own_of_R hR, hB⟩)
  unfold slices_Clone_int_int.f
  rw [if_pos (by omega)]
set_option maxRecDepth 100000 in
theorem vars_calls {w : World} {base g : Nat} {l : List Int} (h : AT w base g l) : Calls Try.prog 88 #[.pointer (some ⟨g, 0, none⟩)] w fun e w' => e = .returned (.int .i64 (tot l)) ∧ w' = w := by
  obtain ⟨bv, sv, h1, h2, h3, h4⟩ := h
  have hc := cell_far h1 2 _ rfl
  go_enter Try.func88, Try.ntmps88
  go_wp2
  go_ret
  exact ⟨rfl, rfl⟩
theorem beg_pos {l : List Int} (hn : ∀ n ∈ l, 0 ≤ n) (p : Nat) : 1 ≤ beg l p := by
  have := tot_nonneg (l := l.take p) fun n h => hn n (List.mem_of_mem_take h)
  unfold beg; omega
set_option maxRecDepth 100000 in
theorem packs_calls {w : World} {base g : Nat} {l : List Int} (h : AT w base g l) : Calls Try.prog 72 #[.pointer (some ⟨g, 0, none⟩)] w fun e w' => e = .returned (.int .i64 l.length) ∧ w' = w := by
  obtain ⟨bv, sv, h1, h2, h3, h4⟩ := h
  obtain ⟨ps, qs, rfl⟩ := Hlp.own_slice h4
  have hc := cell_far h1 1 _ rfl
  go_enter Try.func72, Try.ntmps72
  go_wp2
  go_ret
  exact ⟨rfl, rfl⟩
/-- A package's size. -/
def sizeP (l : List Int) (p : Int) : Int := if 0 ≤ p ∧ p < l.length then l.getD p.toNat 0 else 0
set_option maxRecDepth 100000 in
theorem size_calls {w : World} {base g : Nat} {l : List Int} (h : AT w base g l) (p : Int) : Calls Try.prog 97 #[.pointer (some ⟨g, 0, none⟩), .int .i64 p] w fun e w' => e = .returned (.int .i64 (sizeP l p)) ∧ Below w.heap.size w w' := by
  obtain ⟨bv, sv, h1, h2, h3, h4⟩ := h
  obtain ⟨ps, qs, rfl⟩ := Hlp.own_slice h4
  have hc := cell_far h1 1 _ rfl
  unfold sizeP
  by_cases hp0 : p < 0
  · rw [if_neg (by omega)]
    go_enter Try.func97, Try.ntmps97
    go_wp2
    go_ret
    exact ⟨rfl, Below.refl _ _⟩
  by_cases hp1 : (l.length : Int) ≤ p
  · rw [if_neg (by omega)]
    go_enter Try.func97, Try.ntmps97
    go_wp2
    go_ret
    exact ⟨rfl, Below.refl _ _⟩
  obtain ⟨k, rfl⟩ : ∃ k : Nat, p = (k : Int) := ⟨p.toNat, by omega⟩
  rw [if_pos (by omega), Int.toNat_natCast]
  have hk : k < l.length := by omega
  have hkI : (k : Int) < (l.length : Int) := by omega
  obtain ⟨rs, rfl⟩ := addr_of h4 (by omega)
  have hcs := row_cell h4 k (.int .i64 (l.getD k 0)) (by simp [ints, hk])
  generalize l.getD k 0 = n at *
  go_enter Try.func97, Try.ntmps97
  go_wp2
  go_ret
  exact ⟨rfl, Below.refl _ _⟩
end Go.Proofs.Ytcebjhbphcoboaa.Ato
namespace Go.Proofs.Ytcebjhbphcoboaa.Ato
open Go Go.RowKit Go.Proofs.Ytcebjhbphcoboaa.X Go.Proofs.Ytcebjhbphcoboaa.Hlp Go.Proofs.YtcebjhbphcoboaaW.PrintWords Go.Proofs.YtcebjhbphcoboaaW.PrintLast Go.Proofs.YtcebjhbphcoboaaW.PrintMore Go.Proofs.Ytcebjhbphcoboaa.Aid
set_option linter.unusedVariables false
set_option linter.unusedSimpArgs false
def bools (l : List Bool) : List Value := l.map Value.bool
/-- A package's truths: whether it is there; is at most a rank; is a rank. -/
def lows (n r : Int) (k : Nat) : List Bool := (List.range k).map fun (i : Nat) => decide (r ≤ (i : Int))
def eqs (r : Int) (k : Nat) : List Bool := (List.range k).map fun (i : Nat) => decide (r = (i : Int))
def blk (n r : Int) : List Bool := [decide (0 ≤ r)] ++ lows n r (n - 1).toNat ++ eqs r n.toNat
def tr (l ch : List Int) : Nat → List Bool
  | 0 => []
  | k + 1 => tr l ch k ++ blk (l.getD k 0) (ch.getD k 0)
def okc (l ch : List Int) (k : Nat) : Prop := -1 ≤ ch.getD k 0 ∧ ch.getD k 0 < l.getD k 0
open Classical in
noncomputable def outL (l ch : List Int) : List Bool := if ch.length = l.length ∧ ∀ p, p < l.length → okc l ch p then tr l ch l.length else []
theorem lows_succ (n r : Int) (k : Nat) : lows n r (k + 1) = lows n r k ++ [decide (r ≤ (k : Int))] := by simp [lows, List.range_succ]
theorem eqs_succ (r : Int) (k : Nat) : eqs r (k + 1) = eqs r k ++ [decide (r = (k : Int))] := by simp [eqs, List.range_succ]
theorem lows_len (n r : Int) (k : Nat) : (lows n r k).length = k := by simp [lows]
theorem eqs_len (r : Int) (k : Nat) : (eqs r k).length = k := by simp [eqs]
theorem blk_len (n r : Int) : (blk n r).length = 1 + (n - 1).toNat + n.toNat := by simp [blk, lows_len, eqs_len]; omega
theorem tr_len {l ch : List Int} (h : ∀ n ∈ l, 0 ≤ n) : ∀ k, k ≤ l.length → ((tr l ch k).length : Int) = tot (l.take k)
  | 0, _ => by simp [tr, tot]
  | k + 1, hk => by
    have h1 : l.getD k 0 = l[k] := by simp [List.getD, show k < l.length from hk]
    have h2 := h _ (List.getElem_mem (show k < l.length from hk))
    have h3 := tr_len (ch := ch) h k (by omega)
    rw [List.take_succ_eq_append_getElem (show k < l.length from hk), tot_snoc, tr, List.length_append, blk_len, h1, wd]
    omega

theorem rd_at (l : List Int) (n : Nat) (h : n < l.length) : rd l (n : Int) = l[n] := by rw [rd_of (by omega) (by omega)]; rfl
/-- Where a package's truths stand. -/
theorem tr_at {l ch : List Int} (h : ∀ n ∈ l, 0 ≤ n) (p : Nat) : ∀ k, p < k → k ≤ l.length → ∀ off b, (blk (l.getD p 0) (ch.getD p 0))[off]? = some b → (tr l ch k)[(tr l ch p).length + off]? = some b
  | 0, hp, _, _, _, _ => absurd hp (Nat.not_lt_zero p)
  | k + 1, hp, hk, off, b, hb => by
    rcases Nat.eq_or_lt_of_le (Nat.lt_succ_iff.mp hp) with rfl | h2
    · rw [tr, List.getElem?_append_right (by omega), Nat.add_sub_cancel_left]; exact hb
    · have ih := tr_at h p k h2 (by omega) off b hb
      have hlt := (List.getElem?_eq_some_iff.mp ih).1
      rw [tr, List.getElem?_append_left hlt]; exact ih
theorem blk0 (n r : Int) : (blk n r)[0]? = some (decide (0 ≤ r)) := by simp [blk]
theorem blk1 (n r : Int) (k : Nat) (h : (k : Int) < n - 1) : (blk n r)[1 + k]? = some (decide (r ≤ (k : Int))) := by
  unfold blk
  rw [List.append_assoc, List.getElem?_append_right (by simp), show 1 + k - [decide (0 ≤ r)].length = k by simp, List.getElem?_append_left (by rw [lows_len]; omega)]
  rw [lows, List.getElem?_map, List.getElem?_range (by omega)]; rfl
theorem blk2 (n r : Int) (k : Nat) (h : (k : Int) < n) : (blk n r)[1 + (n - 1).toNat + k]? = some (decide (r = (k : Int))) := by
  unfold blk
  rw [List.getElem?_append_right (by simp [lows_len]; omega), show 1 + (n - 1).toNat + k - ([decide (0 ≤ r)] ++ lows n r (n - 1).toNat).length = k by simp [lows_len]; omega]
  rw [eqs, List.getElem?_map, List.getElem?_range (by omega)]; rfl
def lowA (p : Nat) (k : Nat) : List S111 := (List.range k).map fun (i : Nat) => (⟨1, (p : Int), (i : Int)⟩ : S111)
def eqA (p : Nat) (k : Nat) : List S111 := (List.range k).map fun (i : Nat) => (⟨2, (p : Int), (i : Int)⟩ : S111)
def blkA (n : Int) (p : Nat) : List S111 := [⟨0, (p : Int), 0⟩] ++ lowA p (n - 1).toNat ++ eqA p n.toNat
def allA (l : List Int) : Nat → List S111
  | 0 => []
  | k + 1 => allA l k ++ blkA (l.getD k 0) k
theorem lowA_succ (p k : Nat) : lowA p (k + 1) = lowA p k ++ [⟨1, (p : Int), (k : Int)⟩] := by simp [lowA, List.range_succ]
theorem eqA_succ (p k : Nat) : eqA p (k + 1) = eqA p k ++ [⟨2, (p : Int), (k : Int)⟩] := by simp [eqA, List.range_succ]
def isP (ch : List Int) (a : S111) : Bool := if a.f0 = 0 then decide (rd ch a.f1 ≥ 0) else if a.f0 = 1 then decide (rd ch a.f1 ≤ a.f2) else rd ch a.f1 == a.f2
theorem rd_getD (l : List Int) (p : Nat) : rd l (p : Int) = l.getD p 0 := by simp [rd]
theorem map_blkA (ch : List Int) (n : Int) (p : Nat) : (blkA n p).map (isP ch) = blk n (ch.getD p 0) := by
  unfold blkA blk
  rw [List.map_append, List.map_append]
  congr 1
  · congr 1
    unfold lowA lows
    rw [List.map_map]
    apply List.map_congr_left
    intro i _
    simp [isP, rd_getD]
  · unfold eqA eqs
    rw [List.map_map]
    apply List.map_congr_left
    intro i _
    simp only [Function.comp_apply, isP, rd_getD]
    rw [if_neg (by decide), if_neg (by decide)]
    rw [Bool.eq_iff_iff]; simp
theorem map_allA (l ch : List Int) : ∀ k, (allA l k).map (isP ch) = tr l ch k
  | 0 => rfl
  | k + 1 => by rw [allA, List.map_append, map_allA l ch k, map_blkA, tr]
theorem allA_len {l : List Int} (h : ∀ n ∈ l, 0 ≤ n) (k : Nat) (hk : k ≤ l.length) : ((allA l k).length : Int) = tot (l.take k) := by
  rw [← tr_len (ch := []) h k hk, ← map_allA l [] k, List.length_map]
theorem lowA_len (p k : Nat) : (lowA p k).length = k := by simp [lowA]
theorem eqA_len (p k : Nat) : (eqA p k).length = k := by simp [eqA]
theorem all_l2 {l : List Int} (hl : l.length ≤ 4096) (hn : ∀ n ∈ l, 0 ≤ n ∧ n ≤ 16777216) (p : Nat) (hp : p < l.length) (X : List S111) (hX : X.length ≤ 40000000) (R : List S111) (hK : Ev (fun k => ferruleref13_All.l0 k l (X ++ eqA p (l.getD p 0).toNat) ((p + 1 : Nat) : Int)) R) :
    ∀ d q : Nat, (l.getD p 0).toNat - q = d → q ≤ (l.getD p 0).toNat → Ev (fun k => ferruleref13_All.l2 k l (X ++ eqA p q) (p : Int) (q : Int)) R := by
  have hnn := hn (l.getD p 0) (by simp [List.getD, hp])
  intro d
  induction d with
  | zero =>
    intro q hd hq
    obtain rfl : q = (l.getD p 0).toNat := by omega
    refine Ev.step (fun k => by rw [ferruleref13_All.l2]) (ev_pos (by omega) (ev_pos (by omega) (ev_neg (by rw [rd_getD]; omega) ?_)))
    rw [wrap64_in (by omega) (by omega), show (p : Int) + 1 = ((p + 1 : Nat) : Int) by omega]
    exact hK
  | succ d ih =>
    intro q hd hq
    have hlen : (X ++ eqA p q).length < 5864062014805 := by rw [List.length_append, eqA_len]; omega
    refine Ev.step (fun k => by rw [ferruleref13_All.l2]) (ev_pos (by omega) (ev_pos (by omega) (ev_pos (by rw [rd_getD]; omega) (ev_pos hlen ?_))))
    rw [wrap64_in (by omega) (by omega), show (q : Int) + 1 = ((q + 1 : Nat) : Int) by omega, List.append_assoc, ← eqA_succ]
    exact ih (q + 1) (by omega) (by omega)
theorem all_l1 {l : List Int} (hl : l.length ≤ 4096) (hn : ∀ n ∈ l, 0 ≤ n ∧ n ≤ 16777216) (p : Nat) (hp : p < l.length) (X : List S111) (hX : X.length ≤ 20000000) (R : List S111) (hK : Ev (fun k => ferruleref13_All.l0 k l (X ++ lowA p (l.getD p 0 - 1).toNat ++ eqA p (l.getD p 0).toNat) ((p + 1 : Nat) : Int)) R) :
    ∀ d q : Nat, (l.getD p 0 - 1).toNat - q = d → q ≤ (l.getD p 0 - 1).toNat → Ev (fun k => ferruleref13_All.l1 k l (X ++ lowA p q) (p : Int) (q : Int)) R := by
  have hnn := hn (l.getD p 0) (by simp [List.getD, hp])
  intro d
  induction d with
  | zero =>
    intro q hd hq
    obtain rfl : q = (l.getD p 0 - 1).toNat := by omega
    refine Ev.step (fun k => by rw [ferruleref13_All.l1]) (ev_pos (by omega) (ev_pos (by omega) (ev_neg (by rw [rd_getD, wrap64_in (by omega) (by omega)]; omega) ?_)))
    have := all_l2 hl hn p hp (X ++ lowA p (l.getD p 0 - 1).toNat) (by rw [List.length_append, lowA_len]; omega) R hK _ 0 rfl (Nat.zero_le _)
    rw [show eqA p 0 = [] from rfl, List.append_nil] at this
    exact this
  | succ d ih =>
    intro q hd hq
    have hlen : (X ++ lowA p q).length < 5864062014805 := by rw [List.length_append, lowA_len]; omega
    have hw : wrap64 ((q : Int) + 1) = ((q + 1 : Nat) : Int) := by rw [wrap64_in (by omega) (by omega)]; omega
    refine Ev.step (fun k => by rw [ferruleref13_All.l1]) (ev_pos (by omega) (ev_pos (by omega) (ev_pos (by rw [rd_getD, hw]; omega) (ev_pos hlen ?_))))
    rw [hw, List.append_assoc, ← lowA_succ]
    exact ih (q + 1) (by omega) (by omega)
theorem all_l0 {l : List Int} (hl : l.length ≤ 4096) (hn : ∀ n ∈ l, 0 ≤ n ∧ n ≤ 16777216) (ht : tot l ≤ 16777216) : ∀ d p : Nat, l.length - p = d → p ≤ l.length → Ev (fun k => ferruleref13_All.l0 k l (allA l p) (p : Int)) (allA l l.length) := by
  intro d
  induction d with
  | zero =>
    intro p hd hp
    obtain rfl : p = l.length := by omega
    exact Ev.step (fun k => by rw [ferruleref13_All.l0]) (ev_neg (by omega) (Ev.now _))
  | succ d ih =>
    intro p hd hp
    have h1 := allA_len (fun n h => (hn n h).1) p hp
    have h2 := tot_le (fun n h => (hn n h).1) p
    refine Ev.step (fun k => by rw [ferruleref13_All.l0]) (ev_pos (by omega) (ev_pos (by omega) ?_))
    have := all_l1 hl hn p (by omega) (allA l p ++ [⟨0, (p : Int), 0⟩]) (by simp; omega) (allA l l.length) (by
      have := ih (p + 1) (by omega) (by omega)
      rw [allA, blkA, ← List.append_assoc, ← List.append_assoc] at this
      exact this) _ 0 rfl (Nat.zero_le _)
    rw [show lowA p 0 = [] from rfl, List.append_nil] at this
    exact this
theorem all_ev {l : List Int} (hl : l.length ≤ 4096) (hn : ∀ n ∈ l, 0 ≤ n ∧ n ≤ 16777216) (ht : tot l ≤ 16777216) : Ev (fun k => ferruleref13_All.f k l) (allA l l.length) := by
  unfold ferruleref13_All.f
  exact all_l0 hl hn ht _ 0 rfl (Nat.zero_le _)
theorem truths_l1 {l : List Int} (hn : ∀ n ∈ l, 0 ≤ n ∧ n ≤ 16777216) (ht : tot l ≤ 16777216) (ch : List Int) (hc : ch.length = l.length) : ∀ d i : Nat, (allA l l.length).length - i = d → i ≤ (allA l l.length).length → Ev (fun k => ferruleref13_Truths.l1 k ch (allA l l.length) ((allA l l.length).take i |>.map (isP ch)) (i : Int)) (tr l ch l.length) := by
  have h1 := allA_len (fun n h => (hn n h).1) l.length (Nat.le_refl _)
  rw [List.take_length] at h1
  have hmem : ∀ k, k ≤ l.length → ∀ a ∈ allA l k, 0 ≤ a.f1 ∧ a.f1 < (k : Int) := by
    intro k
    induction k with
    | zero => intro _ a ha; simp [allA] at ha
    | succ k ih =>
      intro hk a ha
      rw [allA, List.mem_append] at ha
      rcases ha with ha | ha
      · have := ih (by omega) a ha; omega
      · unfold blkA lowA eqA at ha
        simp only [List.mem_append, List.mem_map, List.mem_singleton] at ha
        rcases ha with (rfl | ⟨i, _, rfl⟩) | ⟨i, _, rfl⟩ <;> (simp only []; omega)
  have hm := hmem l.length (Nat.le_refl _)
  rw [← map_allA l ch l.length]
  generalize allA l l.length = al at *
  intro d
  induction d with
  | zero =>
    intro i hd hi
    refine Ev.step (fun k => by rw [ferruleref13_Truths.l1]) (ev_neg (by omega) (ev_now ?_))
    rw [List.take_of_length_le (by omega)]
  | succ d ih =>
    intro i hd hi
    have hlt : i < al.length := by omega
    have ha := hm _ (List.getElem_mem hlt)
    have hrd : rd_T111 al (i : Int) = al[i] := by unfold rd_T111; simp [List.getD, hlt]
    refine Ev.step (fun k => by rw [ferruleref13_Truths.l1]) (ev_pos (by omega) (ev_pos (by omega) ?_))
    rw [hrd]
    refine ev_bind (a := isP ch al[i]) (ev_done ?_) (ev_pos (by simp; omega) ?_)
    · unfold ferruleref13_Is.f isP
      rw [if_pos ha.1, if_pos (by omega)]
      split
      · rfl
      · split <;> rfl
    · rw [wrap64_in (by omega) (by omega), show (i : Int) + 1 = ((i + 1 : Nat) : Int) by omega]
      have := ih (i + 1) (by omega) (by omega)
      rw [List.take_succ_eq_append_getElem hlt, List.map_append] at this
      exact this
theorem truths_l0 {l : List Int} (hl : l.length ≤ 4096) (hn : ∀ n ∈ l, 0 ≤ n ∧ n ≤ 16777216) (ht : tot l ≤ 16777216) (ch : List Int) (hc : ch.length = l.length) : ∀ d i : Nat, l.length - i = d → i ≤ l.length → (∀ p, p < i → okc l ch p) → Ev (fun k => ferruleref13_Truths.l0 k l ch (i : Int)) (outL l ch) := by
  intro d
  induction d with
  | zero =>
    intro i hd hi hok
    obtain rfl : i = l.length := by omega
    refine Ev.step (fun k => by rw [ferruleref13_Truths.l0]) (ev_neg (by omega) (ev_bind (all_ev hl hn ht) ?_))
    rw [show outL l ch = tr l ch l.length from by unfold outL; exact if_pos ⟨hc, hok⟩]
    exact truths_l1 hn ht ch hc _ 0 rfl (Nat.zero_le _)
  | succ d ih =>
    intro i hd hi hok
    refine Ev.step (fun k => by rw [ferruleref13_Truths.l0]) (ev_pos (by omega) (ev_pos (by omega) (ev_pos (by omega) ?_)))
    rw [rd_getD, rd_getD]
    have hno : ¬ okc l ch i → outL l ch = [] := fun h => by unfold outL; exact if_neg fun x => h (x.2 i (by omega))
    unfold okc at hno
    by_cases h1 : ch.getD i 0 < -1
    · exact ev_pos h1 (ev_now (hno (by omega)).symm)
    · by_cases h2 : ch.getD i 0 ≥ l.getD i 0
      · exact ev_neg h1 (ev_pos h2 (ev_now (hno (by omega)).symm))
      · refine ev_neg h1 (ev_neg h2 ?_)
        rw [wrap64_in (by omega) (by omega), show (i : Int) + 1 = ((i + 1 : Nat) : Int) by omega]
        refine ih (i + 1) (by omega) (by omega) fun p hp => ?_
        rcases Nat.lt_succ_iff_lt_or_eq.mp hp with h | rfl
        · exact hok p h
        · unfold okc; omega
theorem truths_ev {l : List Int} (hl : l.length ≤ 4096) (hn : ∀ n ∈ l, 0 ≤ n ∧ n ≤ 16777216) (ht : tot l ≤ 16777216) (ch : List Int) : ∃ k, ferruleref13_Truths.f k l ch = some (outL l ch) := by
  by_cases hc : ch.length = l.length
  · obtain ⟨k, hk⟩ := (truths_l0 hl hn ht ch hc _ 0 rfl (Nat.zero_le _) (fun p hp => absurd hp (Nat.not_lt_zero p))).rounds
    refine ⟨k, ?_⟩
    unfold ferruleref13_Truths.f
    rw [if_pos (by omega)]
    exact hk
  · refine ⟨0, ?_⟩
    unfold ferruleref13_Truths.f
    rw [if_neg (by omega), show outL l ch = [] from by unfold outL; exact if_neg fun x => hc x.1]
/-- The atom of a package's variable number k. -/
def atP (n : Int) (p : Nat) (k : Int) : S111 :=
  if k < 0 then ⟨0, (p : Int), 0⟩ else if k < max (n - 1) 0 then ⟨1, (p : Int), k⟩ else ⟨2, (p : Int), k - max (n - 1) 0⟩
theorem blkA_len {n : Int} (hn : 0 ≤ n) (p : Nat) : ((blkA n p).length : Int) = wd n := by
  unfold blkA wd
  simp only [List.length_append, List.length_singleton, lowA_len, eqA_len]
  omega
theorem all_at {l : List Int} (p : Nat) : ∀ k, p < k → k ≤ l.length → ∀ off a, (blkA (l.getD p 0) p)[off]? = some a → (allA l k)[(allA l p).length + off]? = some a
  | 0, hp, _, _, _, _ => absurd hp (Nat.not_lt_zero p)
  | k + 1, hp, hk, off, a, ha => by
    rcases Nat.eq_or_lt_of_le (Nat.lt_succ_iff.mp hp) with rfl | h2
    · rw [allA, List.getElem?_append_right (by omega), Nat.add_sub_cancel_left]; exact ha
    · have ih := all_at p k h2 (by omega) off a ha
      have hlt := (List.getElem?_eq_some_iff.mp ih).1
      rw [allA, List.getElem?_append_left hlt]; exact ih
theorem blkA_at {n : Int} (hn : 0 ≤ n) (p : Nat) (off : Nat) (h : (off : Int) < wd n) : (blkA n p)[off]? = some (atP n p ((off : Int) - 1)) := by
  unfold wd at h
  unfold blkA atP
  rw [List.append_assoc]
  by_cases h0 : off = 0
  · subst h0; rw [if_pos (by omega)]; rfl
  · rw [if_neg (by omega), List.getElem?_append_right (by simp; omega)]
    simp only [List.length_singleton]
    by_cases h1 : (off : Int) - 1 < max (n - 1) 0
    · rw [if_pos h1, List.getElem?_append_left (by rw [lowA_len]; omega)]
      unfold lowA
      rw [List.getElem?_map, List.getElem?_range (by omega)]
      simp only [Option.map_some, Option.some.injEq, S111.mk.injEq, true_and]; omega
    · rw [if_neg h1, List.getElem?_append_right (by rw [lowA_len]; omega), lowA_len]
      unfold eqA
      rw [List.getElem?_map, List.getElem?_range (by omega)]
      simp only [Option.map_some, Option.some.injEq, S111.mk.injEq, true_and]; omega
theorem beg_at {l : List Int} (hn : ∀ n ∈ l, 0 ≤ n) (p : Nat) (hp : p ≤ l.length) : beg l p = ((allA l p).length : Int) + 1 := by
  rw [allA_len hn p hp]; rfl
theorem beg_succ (l : List Int) (p : Nat) (hp : p < l.length) : beg l (p + 1) = beg l p + wd (l.getD p 0) := by
  unfold beg
  rw [List.take_succ_eq_append_getElem hp, tot_snoc]
  simp [List.getD, hp]; omega
theorem getD_nonneg {l : List Int} (hn : ∀ n ∈ l, 0 ≤ n) (p : Nat) (hp : p < l.length) : 0 ≤ l.getD p 0 := hn _ (by simp [List.getD, hp])
/-- The atom of a variable stands at its place. -/
theorem at_var {l : List Int} (hn : ∀ n ∈ l, 0 ≤ n) (p : Nat) (hp : p < l.length) (v : Int) (h1 : beg l p ≤ v) (h2 : v < beg l p + wd (l.getD p 0)) : (allA l l.length)[(v - 1).toNat]? = some (atP (l.getD p 0) p (v - beg l p - 1)) := by
  have hb := beg_at hn p (by omega)
  have hg := getD_nonneg hn p hp
  have := all_at p l.length hp (Nat.le_refl _) (v - beg l p).toNat _ (blkA_at hg p (v - beg l p).toNat (by omega))
  rw [show (allA l p).length + (v - beg l p).toNat = (v - 1).toNat by omega, show (((v - beg l p).toNat : Nat) : Int) - 1 = v - beg l p - 1 by omega] at this
  exact this
theorem place_beg {l : List Int} (hn : ∀ n ∈ l, 0 ≤ n) (v : Int) : ∀ k, k ≤ l.length → 1 ≤ v → v < beg l k → ∃ p, p < k ∧ beg l p ≤ v ∧ v < beg l p + wd (l.getD p 0)
  | 0, _, h1, h2 => by simp [beg, tot] at h2; omega
  | k + 1, hk, h1, h2 => by
    by_cases h : beg l k ≤ v
    · exact ⟨k, by omega, h, by rw [beg_succ l k (by omega)] at h2; exact h2⟩
    · obtain ⟨p, h3, h4⟩ := place_beg hn v k (by omega) h1 (by omega)
      exact ⟨p, by omega, h4⟩
end Go.Proofs.Ytcebjhbphcoboaa.Ato
namespace Go.Proofs.Ytcebjhbphcoboaa.Ato
open Go Go.RowKit Go.Proofs.Ytcebjhbphcoboaa.X Go.Proofs.Ytcebjhbphcoboaa.Hlp Go.Proofs.YtcebjhbphcoboaaW.PrintWords Go.Proofs.YtcebjhbphcoboaaW.PrintLast Go.Proofs.YtcebjhbphcoboaaW.PrintMore Go.Proofs.Ytcebjhbphcoboaa.Aid
attribute [local go_sem] max2_int min2_int max_two min_two
set_option linter.unusedVariables false
set_option linter.unusedSimpArgs false
set_option maxRecDepth 100000 in
theorem ends_calls {w : World} {base g : Nat} {l : List Int} (h : AT w base g l) (p : Nat) (hp : p < l.length) (hg : 0 ≤ l.getD p 0 ∧ l.getD p 0 ≤ 16777216) (hb : 1 ≤ beg l p ∧ beg l p ≤ 16777217) :
    Calls Try.prog 119 #[.pointer (some ⟨g, 0, none⟩), .int .i64 p] w fun e w' => e = .returned (.complex .f64 (floatOfInt .f64 (beg l p)) (floatOfInt .f64 (beg l p + wd (l.getD p 0)))) ∧ Below w.heap.size w w' := by
  obtain ⟨bv, sv, h1, h2, h3, h4⟩ := h
  obtain ⟨pb, qb, rfl⟩ := Hlp.own_slice h3
  obtain ⟨ps, qs, rfl⟩ := Hlp.own_slice h4
  obtain ⟨rb, rfl⟩ := addr_of h3 (by omega)
  obtain ⟨rs, rfl⟩ := addr_of h4 (by omega)
  have hc0 := cell_far h1 0 _ rfl
  have hc1 := cell_far h1 1 _ rfl
  have hcb := row_cell h3 p (.int .i64 (beg l p)) (by simp [ints, begs, beg, hp])
  have hcs := row_cell h4 p (.int .i64 (l.getD p 0)) (by simp [ints, hp])
  have hp2 : (p : Int) < (l.length : Int) := by omega
  clear h1 h3 h4
  generalize l.getD p 0 = n at *
  generalize beg l p = b at *
  have hw0 : 0 < wd n ∧ wd n ≤ 100000000 := by unfold wd; omega
  have hwc := fun k => width_calls n hg.1 hg.2 (w.drewN k)
  generalize hwz : wd n = y at *
  clear hwz
  have hwr : IntKind.i64.wrap (b + y) = b + y := by rw [IntKind.wrap_i64]; omega
  go_enter Try.func119, Try.ntmps119
  go_wp2_with fail
  go_quiet (first | (go_at_call 75; exact Calls.quiet_of_same (hwc _)))
  go_wp2
  go_ret
  exact ⟨rfl, pw_below_drewN (Below.refl _ _) _⟩
set_option maxRecDepth 100000 in
theorem atom_none {w : World} {base g : Nat} {l : List Int} (h : AT w base g l) (v : Int) (hv : v < 1 ∨ tot l < v) :
    Calls Try.prog 95 #[.pointer (some ⟨g, 0, none⟩), .int .i64 v] w fun e w' => e = .returned (.tuple #[.agg #[.int .i64 0, .int .i64 0, .int .i64 0], .bool false]) ∧ Below w.heap.size w w' := by
  obtain ⟨bv, sv, h1, h2, h3, h4⟩ := h
  have hB : Below w.heap.size w (w.alloc (.cells #[.int .i64 0, .int .i64 0, .int .i64 0] 111)) := (Below.refl _ _).alloc (Nat.le_refl _) _
  have hc2 := cell_below' (cell_far h1 2 _ rfl) hB
  have hbk := blk_new w (.cells #[.int .i64 0, .int .i64 0, .int .i64 0] 111)
  generalize tot l = T at *
  by_cases h0 : v < 1
  · go_enter Try.func95, Try.ntmps95
    go_wp2
    refine Lab.wp_scope_lab (Lab.scopeOf Try.f95) ?sc 1 ?_
    case sc => kernel_rfl
    go_wp2
    (try simp only [Exit.then, Exit.inBlock, Lab.gotos])
    refine bodyPost_ret (results_ct rfl _ _ w.heap.size 111 #[.int .i64 0, .int .i64 0, .int .i64 0] (0, 0) _ rfl hbk Try.underlying111 rfl rfl) rfl ?_
    exact ⟨rfl, hB⟩
  · have h0' : T < v := by omega
    go_enter Try.func95, Try.ntmps95
    go_wp2
    refine Lab.wp_scope_lab (Lab.scopeOf Try.f95) ?sc 1 ?_
    case sc => kernel_rfl
    go_wp2
    (try simp only [Exit.then, Exit.inBlock, Lab.gotos])
    refine bodyPost_ret (results_ct rfl _ _ w.heap.size 111 #[.int .i64 0, .int .i64 0, .int .i64 0] (0, 0) _ rfl hbk Try.underlying111 rfl rfl) rfl ?_
    exact ⟨rfl, hB⟩
theorem begs_le {l : List Int} (hn : ∀ n ∈ l, 0 ≤ n ∧ n ≤ 16777216) (ht : tot l ≤ 16777216) (p : Nat) : 1 ≤ beg l p ∧ beg l p ≤ 16777217 := by
  have h0 := beg_pos (fun n h => (hn n h).1) p
  have := tot_le (fun n h => (hn n h).1) p
  refine ⟨h0, ?_⟩
  unfold beg; omega
theorem cmp_lt {v e : Int} (h : v < e) (h0 : 0 < v) (h1 : e < 100000000) : FloatKind.f64.format.order (floatOfInt .f64 v) (floatOfInt .f64 e) = some .lt := by
  rw [order_int v e h0 (by omega) (by omega) (by omega)]
  simp [compare, compareOfLessAndEq, h]
theorem cmp_ge {v e : Int} (h : e ≤ v) (h0 : 0 < e) (h1 : v < 100000000) : FloatKind.f64.format.order (floatOfInt .f64 v) (floatOfInt .f64 e) = some .gt ∨ FloatKind.f64.format.order (floatOfInt .f64 v) (floatOfInt .f64 e) = some .eq := by
  rw [order_int v e (by omega) (by omega) h0 (by omega)]
  by_cases he : v = e
  · right; simp [compare, compareOfLessAndEq, he]
  · left
    have : ¬ v < e := by omega
    simp [compare, compareOfLessAndEq, he, this]
theorem below_box {w w1 : World} (h : Below w.heap.size w w1) (n : Nat) (a b c : Value) : Below w.heap.size w ((((w1.drewN n).setCell ⟨w.heap.size, 0, none⟩ a).setCell ⟨w.heap.size, 1, none⟩ b).setCell ⟨w.heap.size, 2, none⟩ c) := by
  have hs := h.size
  have hd : (w1.drewN n).heap.size = w1.heap.size := rfl
  refine (((pw_below_drewN h n).grown (grown_set _ w.heap.size 0 _) (by omega) (by rintro q ⟨⟩; exact Nat.le_refl _)).grown (grown_set _ w.heap.size 1 _) (by simp; omega) (by rintro q ⟨⟩; exact Nat.le_refl _)).grown (grown_set _ w.heap.size 2 _) (by simp; omega) (by rintro q ⟨⟩; exact Nat.le_refl _)
/-- The atom of a variable. -/
def atomP (l : List Int) (v : Int) (a : S111) : Prop := ∃ p, p < l.length ∧ beg l p ≤ v ∧ v < beg l p + wd (l.getD p 0) ∧ a = atP (l.getD p 0) p (v - beg l p - 1)
set_option maxHeartbeats 2000000 in
set_option maxRecDepth 100000 in
theorem atom_calls {w : World} {base g : Nat} {l : List Int} (h : AT w base g l) (v : Int) (hl4 : l.length ≤ 4096) (hn : ∀ n ∈ l, 0 ≤ n ∧ n ≤ 16777216) (ht : tot l ≤ 16777216) (hv1 : 1 ≤ v) (hv2 : v ≤ tot l) :
    Calls Try.prog 95 #[.pointer (some ⟨g, 0, none⟩), .int .i64 v] w fun e w' => ∃ a, atomP l v a ∧ e = .returned (.tuple #[.agg #[.int .i64 a.f0, .int .i64 a.f1, .int .i64 a.f2], .bool true]) ∧ Below w.heap.size w w' := by
  obtain ⟨bv, sv, h1, h2, h3, h4⟩ := id h
  obtain ⟨pb, qb, rfl⟩ := Hlp.own_slice h3
  obtain ⟨ps, qs, rfl⟩ := Hlp.own_slice h4
  have hB : Below w.heap.size w (w.alloc (.cells #[.int .i64 0, .int .i64 0, .int .i64 0] 111)) := (Below.refl _ _).alloc (Nat.le_refl _) _
  have hc2 := cell_below' (cell_far h1 2 (.int .i64 (tot l)) rfl) hB
  have hbk := blk_new w (.cells #[.int .i64 0, .int .i64 0, .int .i64 0] 111)
  have hvl : v < beg l l.length := by unfold beg; rw [List.take_length]; omega
  have hl0 : 0 < l.length := by
    rcases Nat.eq_zero_or_pos l.length with e | e
    · rw [e] at hvl; simp [beg, tot] at hvl; omega
    · exact e
  have HT := Aside0.mk ht
  have HV := Aside0.mk hvl
  have HV2 := Aside0.mk hv2
  obtain ⟨T, hT⟩ : ∃ T, tot l = T := ⟨_, rfl⟩
  rw [hT] at hc2 hv2 ht
  have hv3 : ¬ v < 1 := by omega
  have hv4 : ¬ T < v := by omega
  clear hT hvl
  go_enter Try.func95, Try.ntmps95
  go_wp2
  refine Lab.wp_scope_lab (Lab.scopeOf Try.f95) ?sc (l.length + 1) ?_
  case sc => kernel_rfl
  go_wp2
  go_step3
  go_step
  (try go_step)
  refine Lab.wp_at_label (l := 0) (fun a0_ kq a_ w_ => ∃ u6 u8 u24 u25 u26 u27 u28 u29 u30 u31 u32 : Value, (∃ p : Nat, p < l.length ∧ kq = l.length - p ∧ u6 = .int .i64 p ∧ beg l p ≤ v ∧ Below w.heap.size w w_ ∧ w_.heap[w.heap.size]? = some (.cells #[.int .i64 0, .int .i64 0, .int .i64 0] 111 (0, 0))) ∧ a_ = (((((((((((a0_.put (some 6) u6).put (some 8) u8).put (some 24) u24).put (some 25) u25).put (some 26) u26).put (some 27) u27).put (some 28) u28).put (some 29) u29).put (some 30) u30).put (some 31) u31).put (some 32) u32)) l.length ?fl (by omega) ?atStart ?round
  case fl => kernel_rfl
  case atStart =>
    (repeat apply Exists.intro)
    refine ⟨?rel, ?fr⟩
    case fr => (simp only [Act.put, List.setIfInBounds_toArray, List.set_cons_zero, List.set_cons_succ] <;> rfl)
    case rel => exact ⟨0, hl0, rfl, rfl, by simp [beg, tot]; omega, hB, hbk⟩
  case round =>
    intro gk a_ wr hle_ hinv HIH
    obtain ⟨u6, u8, u24, u25, u26, u27, u28, u29, u30, u31, u32, ⟨p, hp, hgk, rfl, hbp, hW, hbw⟩, rfl⟩ := hinv
    subst hgk
    simp only [Act.put, List.setIfInBounds_toArray, List.set_cons_zero, List.set_cons_succ]
    have hTW := h.below hW
    have hbeg := begs_le hn HT.out p
    have hgd := hn (l.getD p 0) (by simp [List.getD, hp])
    have hen := fun W (hb : Below w.heap.size w W) => ends_calls (h.below hb) p hp hgd hbeg
    have hbs := beg_succ l p hp
    have hbs2 := begs_le hn HT.out (p + 1)
    have hw0 : 0 < wd (l.getD p 0) := by unfold wd; omega
    have hvl := HV.out
    have HAT : v < beg l p + wd (l.getD p 0) → atomP l v (atP (l.getD p 0) p (v - beg l p - 1)) := fun hx => ⟨p, hp, hbp, hx, rfl⟩
    by_cases hlt : v < beg l p + wd (l.getD p 0)
    · have hvt := HV2.out
      have htt := HT.out
      have hcmp := cmp_lt (v := v) (e := beg l p + wd (l.getD p 0)) hlt (by omega) (by omega)
      have HAT := HAT hlt
      obtain ⟨rb, rfl⟩ := addr_of h3 (by omega)
      obtain ⟨rs, rfl⟩ := addr_of h4 (by omega)
      have hc0 := cell_far h1 0 _ rfl
      have hc1 := cell_far h1 1 _ rfl
      have hcb := row_cell h3 p (.int .i64 (beg l p)) (by simp [ints, begs, beg, hp])
      have hcs := row_cell h4 p (.int .i64 (l.getD p 0)) (by simp [ints, hp])
      have hpI : (p : Int) < (l.length : Int) := by omega
      clear h1 h3 h4 HIH hbs hbs2 hbk hB hc2
      generalize l.getD p 0 = n at *
      generalize beg l p = b at *
      generalize hE : b + wd n = E at hcmp hen hlt
      unfold atP at HAT
      have hpp : (n < 0 → False) := by omega
      by_cases hm : n - 1 < 0
      · have hk0 : v - b - 1 < 0 := by unfold wd at hE; omega
        rw [if_pos hk0] at HAT
        clear htt hvt hlt hE
        go_wp2_with (first
          | (go_at_call 119; with_reducible refine (hen _ hW).mono ?_; rintro e w1 ⟨rfl, hB1⟩; have hW1 := hW.trans (hB1.mono hW.size); have hbw1 := blk_below hbw hB1; have x0 := cell_below' hc0 hW1; have x1 := cell_below' hc1 hW1; have xb := cell_below' hcb hW1; have xs := cell_below' hcs hW1; have z0 := cell_far hbw1 0 _ rfl; have z1 := cell_far hbw1 1 _ rfl; have z2 := cell_far hbw1 2 _ rfl; have f0 := blk_frozen hbw1 0; have f1 := blk_frozen hbw1 1; have f2 := blk_frozen hbw1 2))
        go_quiet (fail)
        go_wp2_with fail
        (try simp only [Exit.then, Exit.inBlock, Lab.gotos])
        refine bodyPost_ret (results_ct rfl _ _ w.heap.size 111 #[.int .i64 0, .int .i64 p, .int .i64 0] (0, 0) _ rfl (blk_put (blk_put (blk_put (blk_drewN hbw1 _) 0 _ rfl) 1 _ rfl) 2 _ rfl) Try.underlying111 rfl rfl) rfl ?_
        exact ⟨_, HAT, rfl, below_box hW1 _ _ _ _⟩
      have hm0 : 0 ≤ n - 1 := by omega
      have hm1 : max (n - 1) 0 = n - 1 := by omega
      rw [hm1] at HAT
      clear hm1
      by_cases hk0 : v - b - 1 < 0
      · rw [if_pos hk0] at HAT
        clear htt hvt hlt hE
        go_wp2_with (first
          | (go_at_call 119; with_reducible refine (hen _ hW).mono ?_; rintro e w1 ⟨rfl, hB1⟩; have hW1 := hW.trans (hB1.mono hW.size); have hbw1 := blk_below hbw hB1; have x0 := cell_below' hc0 hW1; have x1 := cell_below' hc1 hW1; have xb := cell_below' hcb hW1; have xs := cell_below' hcs hW1; have z0 := cell_far hbw1 0 _ rfl; have z1 := cell_far hbw1 1 _ rfl; have z2 := cell_far hbw1 2 _ rfl; have f0 := blk_frozen hbw1 0; have f1 := blk_frozen hbw1 1; have f2 := blk_frozen hbw1 2))
        go_quiet (fail)
        go_wp2_with fail
        (try simp only [Exit.then, Exit.inBlock, Lab.gotos])
        refine bodyPost_ret (results_ct rfl _ _ w.heap.size 111 #[.int .i64 0, .int .i64 p, .int .i64 0] (0, 0) _ rfl (blk_put (blk_put (blk_put (blk_drewN hbw1 _) 0 _ rfl) 1 _ rfl) 2 _ rfl) Try.underlying111 rfl rfl) rfl ?_
        exact ⟨_, HAT, rfl, below_box hW1 _ _ _ _⟩
      rw [if_neg hk0] at HAT
      by_cases hk1 : v - b - 1 < n - 1
      · rw [if_pos hk1] at HAT
        clear htt hvt hlt hE
        go_wp2_with (first
          | (go_at_call 119; with_reducible refine (hen _ hW).mono ?_; rintro e w1 ⟨rfl, hB1⟩; have hW1 := hW.trans (hB1.mono hW.size); have hbw1 := blk_below hbw hB1; have x0 := cell_below' hc0 hW1; have x1 := cell_below' hc1 hW1; have xb := cell_below' hcb hW1; have xs := cell_below' hcs hW1; have z0 := cell_far hbw1 0 _ rfl; have z1 := cell_far hbw1 1 _ rfl; have z2 := cell_far hbw1 2 _ rfl; have f0 := blk_frozen hbw1 0; have f1 := blk_frozen hbw1 1; have f2 := blk_frozen hbw1 2))
        go_quiet (fail)
        go_wp2_with fail
        (try simp only [Exit.then, Exit.inBlock, Lab.gotos])
        refine bodyPost_ret (results_ct rfl _ _ w.heap.size 111 #[.int .i64 1, .int .i64 p, .int .i64 (v - b - 1)] (0, 0) _ rfl (blk_put (blk_put (blk_put (blk_drewN hbw1 _) 0 _ rfl) 1 _ rfl) 2 _ rfl) Try.underlying111 rfl rfl) rfl ?_
        exact ⟨_, HAT, rfl, below_box hW1 _ _ _ _⟩
      rw [if_neg hk1] at HAT
      clear htt hvt hlt hE
      go_wp2_with (first
        | (go_at_call 119; with_reducible refine (hen _ hW).mono ?_; rintro e w1 ⟨rfl, hB1⟩; have hW1 := hW.trans (hB1.mono hW.size); have hbw1 := blk_below hbw hB1; have x0 := cell_below' hc0 hW1; have x1 := cell_below' hc1 hW1; have xb := cell_below' hcb hW1; have xs := cell_below' hcs hW1; have z0 := cell_far hbw1 0 _ rfl; have z1 := cell_far hbw1 1 _ rfl; have z2 := cell_far hbw1 2 _ rfl; have f0 := blk_frozen hbw1 0; have f1 := blk_frozen hbw1 1; have f2 := blk_frozen hbw1 2))
      go_quiet (fail)
      go_wp2_with fail
      (try simp only [Exit.then, Exit.inBlock, Lab.gotos])
      refine bodyPost_ret (results_ct rfl _ _ w.heap.size 111 #[.int .i64 2, .int .i64 p, .int .i64 (v - b - 1 - (n - 1))] (0, 0) _ rfl (blk_put (blk_put (blk_put (blk_drewN hbw1 _) 0 _ rfl) 1 _ rfl) 2 _ rfl) Try.underlying111 rfl rfl) rfl ?_
      exact ⟨_, HAT, rfl, below_box hW1 _ _ _ _⟩
    · have hp1 : p + 1 < l.length := by
        refine Classical.byContradiction fun hx => ?_
        have hx2 : p + 1 = l.length := by omega
        rw [← hbs, hx2] at hlt
        omega
      rw [← hbs] at hlt hen
      have hvt := HV2.out
      have htt := HT.out
      have hcmp := cmp_ge (v := v) (e := beg l (p + 1)) (by omega) (by omega) (by omega)
      have HN := Aside0.mk (show beg l (p + 1) ≤ v by omega)
      generalize beg l (p + 1) = E at hcmp hlt hen hbs2
      generalize beg l p = b at hen hbeg hbp
      clear HAT hbs
      clear hvt htt hbs2 hbeg hgd
      rcases hcmp with hc | hc
      · go_wp2_with (first
          | (go_at_call 119; with_reducible refine (hen _ hW).mono ?_; rintro e w1 ⟨rfl, hB1⟩; have hW1 := hW.trans (hB1.mono hW.size)))
        go_step3
        simp only [Exit.then, Exit.inBlock, Lab.gotos]
        refine Lab.again HIH (l.length - (p + 1)) (by omega) (by omega) ?_
        (repeat apply Exists.intro)
        refine ⟨?rel, ?fr⟩
        case fr => (simp only [Act.put, List.setIfInBounds_toArray, List.set_cons_zero, List.set_cons_succ] <;> rfl)
        case rel => exact ⟨p + 1, hp1, rfl, (by first | rfl | (rw [wrap64_in (by omega) (by omega)]; rfl)), HN.out, hW1, blk_below hbw hB1⟩
      · go_wp2_with (first
          | (go_at_call 119; with_reducible refine (hen _ hW).mono ?_; rintro e w1 ⟨rfl, hB1⟩; have hW1 := hW.trans (hB1.mono hW.size)))
        go_step3
        simp only [Exit.then, Exit.inBlock, Lab.gotos]
        refine Lab.again HIH (l.length - (p + 1)) (by omega) (by omega) ?_
        (repeat apply Exists.intro)
        refine ⟨?rel, ?fr⟩
        case fr => (simp only [Act.put, List.setIfInBounds_toArray, List.set_cons_zero, List.set_cons_succ] <;> rfl)
        case rel => exact ⟨p + 1, hp1, rfl, (by first | rfl | (rw [wrap64_in (by omega) (by omega)]; rfl)), HN.out, hW1, blk_below hbw hB1⟩
end Go.Proofs.Ytcebjhbphcoboaa.Ato
