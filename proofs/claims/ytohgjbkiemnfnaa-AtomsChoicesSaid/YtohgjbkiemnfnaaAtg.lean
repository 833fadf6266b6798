/- The table of atoms: the choice of any row of truths (or that it is none's). A walk by hand. -/
import Derived.Test.YtohgjbkiemnfnaaAtc
namespace Go.Proofs.Ytohgjbkiemnfnaa.Ato
open Go Go.RowKit Go.Proofs.Ytohgjbkiemnfnaa.X Go.Proofs.Ytohgjbkiemnfnaa.Hlp Go.Proofs.YtohgjbkiemnfnaaW.PrintWords Go.Proofs.YtohgjbkiemnfnaaW.PrintLast Go.Proofs.YtohgjbkiemnfnaaW.PrintMore Go.Proofs.Ytohgjbkiemnfnaa.Aid
attribute [local go_sem] max2_int min2_int max_two min_two
set_option linter.unusedVariables false
set_option linter.unusedSimpArgs false

/-- The first true of a row; none: -1. -/
def idxP (xs : List Bool) : Int := if xs.findIdx id < xs.length then (xs.findIdx id : Int) else -1
theorem indexg_l0 (xs : List Bool) (hn : xs.length ≤ 16777216) : ∀ d i : Nat, xs.length - i = d → i ≤ xs.length → (∀ j (h : j < xs.length), j < i → xs[j] = false) → Ev (fun k => slices_Index_bool_bool.l0 k xs true (xs.length : Int) (i : Int)) (idxP xs) := by
  intro d
  induction d with
  | zero =>
    intro i hd hi hno
    refine Ev.step (fun k => by rw [slices_Index_bool_bool.l0]) (ev_neg (by omega) (ev_now ?_))
    have : xs.findIdx id = xs.length := List.findIdx_eq_length.mpr fun x hx => by
      obtain ⟨j, hj, rfl⟩ := List.getElem_of_mem hx
      exact hno j hj (by omega)
    unfold idxP
    rw [if_neg (by omega)]
  | succ d ih =>
    intro i hd hi hno
    have hlt : i < xs.length := by omega
    have hrd : rdOf false xs (i : Int) = xs[i] := by unfold rdOf; simp [List.getD, hlt]
    refine Ev.step (fun k => by rw [slices_Index_bool_bool.l0]) (ev_pos (by omega) (ev_pos (by omega) (ev_pos (by omega) ?_)))
    rw [hrd]
    by_cases hr : xs[i] = true
    · refine ev_pos (by simp [hr]) (ev_now ?_)
      have : xs.findIdx id = i := by
        rw [List.findIdx_eq hlt]
        exact ⟨by simpa using hr, fun j hj => by simpa using hno j (by omega) hj⟩
      unfold idxP
      rw [this, if_pos hlt]
    · refine ev_neg (by simp [hr]) ?_
      rw [wrap64_in (by omega) (by omega), show (i : Int) + 1 = ((i + 1 : Nat) : Int) by omega]
      refine ih (i + 1) (by omega) (by omega) fun j hj hji => ?_
      rcases Nat.lt_succ_iff_lt_or_eq.mp hji with h | rfl
      · exact hno j hj h
      · simpa using hr
theorem indexg_ev (xs : List Bool) (hn : xs.length ≤ 16777216) : ∃ k, slices_Index_bool_bool.f k xs true = some (idxP xs) := by
  obtain ⟨k, hk⟩ := (indexg_l0 xs hn _ 0 rfl (Nat.zero_le _) (fun j _ hj => absurd hj (Nat.not_lt_zero j))).rounds
  exact ⟨k, by unfold slices_Index_bool_bool.f; exact hk⟩
theorem equalg_l0 (a b : List Bool) (hab : a.length = b.length) (ha : a.length ≤ 1000000000) : ∀ d i : Nat, a.length - i = d → i ≤ a.length → a.take i = b.take i → Ev (fun k => slices_Equal_bool_bool.l0 k a b (a.length : Int) (i : Int)) (decide (a = b)) := by
  intro d
  induction d with
  | zero =>
    intro i hd hi h
    refine Ev.step (fun k => by rw [slices_Equal_bool_bool.l0]) (ev_neg (by omega) (ev_now ?_))
    rw [List.take_of_length_le (by omega), List.take_of_length_le (by omega)] at h
    rw [decide_eq_true h]
  | succ d ih =>
    intro i hd hi h
    have hla : i < a.length := by omega
    have hlb : i < b.length := by omega
    have e1 : rdOf false a (i : Int) = a[i] := by unfold rdOf; simp [List.getD, hla]
    have e2 : rdOf false b (i : Int) = b[i] := by unfold rdOf; simp [List.getD, hlb]
    refine Ev.step (fun k => by rw [slices_Equal_bool_bool.l0]) (ev_pos (by omega) (ev_pos (by omega) (ev_pos (by omega) (ev_pos (by omega) ?_))))
    rw [e1, e2]
    by_cases hr : a[i] = b[i]
    · refine ev_neg (by simp [hr]) ?_
      rw [wrap64_in (by omega) (by omega), show (i : Int) + 1 = ((i + 1 : Nat) : Int) by omega]
      refine ih (i + 1) (by omega) (by omega) ?_
      rw [List.take_succ_eq_append_getElem hla, List.take_succ_eq_append_getElem hlb, h, hr]
    · refine ev_pos (by simpa using hr) (ev_now ?_)
      rw [decide_eq_false]
      rintro rfl
      exact hr rfl
theorem equalg_ev (a b : List Bool) (ha : a.length ≤ 1000000000) : ∃ k, slices_Equal_bool_bool.f k a b = some (decide (a = b)) := by
  by_cases hab : a.length = b.length
  · obtain ⟨k, hk⟩ := (equalg_l0 a b hab ha _ 0 rfl (Nat.zero_le _) (by simp)).rounds
    exact ⟨k, by unfold slices_Equal_bool_bool.f; rw [if_pos (by omega)]; exact hk⟩
  · exact ⟨0, by unfold slices_Equal_bool_bool.f; rw [if_neg (by omega), decide_eq_false (by rintro rfl; exact hab rfl)]⟩
/-- Where a package's truths begin; what tells its rank; the choice that they tell. -/
def pos (l : List Int) (k : Nat) : Nat := (tot (l.take k)).toNat
def part (l : List Int) (T : List Bool) (k : Nat) : List Bool := (T.drop (pos l k + 1 + (l.getD k 0 - 1).toNat)).take (l.getD k 0).toNat
def cand (l : List Int) (T : List Bool) : Nat → List Int
  | 0 => []
  | k + 1 => cand l T k ++ [idxP (part l T k)]
theorem cand_len (l : List Int) (T : List Bool) : ∀ k, (cand l T k).length = k
  | 0 => rfl
  | k + 1 => by rw [cand, List.length_append, cand_len l T k]; rfl
theorem outL_le' {l ch : List Int} (hn : ∀ n ∈ l, 0 ≤ n ∧ n ≤ 16777216) (ht : tot l ≤ 16777216) : (outL l ch).length ≤ 16777216 := by
  unfold outL
  split
  · have := tr_len (ch := ch) (fun n h => (hn n h).1) l.length (Nat.le_refl _)
    rw [List.take_length] at this
    omega
  · simp
theorem add_add (ad : Addr) (i j : Nat) : (ad.add i).add j = ad.add (i + j) := by
  unfold Addr.add
  by_cases hi : i = 0 <;> by_cases hj : j = 0 <;> simp [hi, hj, Nat.add_assoc]
theorem C_boolsA {W : World} {ad : Addr} {xs : List Bool} (hl : xs.length ≤ 9223372036854775807) (h : ∀ j b, xs[j]? = some b → W.cell? (ad.add j) = some (.bool b)) : Kd.bool.C W (some ad) xs.length xs := by
  refine ⟨rfl, hl, fun _ => ⟨_, rfl, fun j p hj => ⟨[.bool p], rfl, rfl, fun i u hu => ?_⟩⟩⟩
  cases i with
  | succ i => simp at hu
  | zero =>
    obtain rfl : Value.bool p = u := by simpa using hu
    show W.cell? (ad.add (j * 1 + 0)) = _
    rw [show j * 1 + 0 = j by omega]
    exact h j p hj
theorem bool_cell {W : World} {ad : Addr} {xs : List Bool} (h : Kd.bool.C W (some ad) xs.length xs) (j : Nat) (b : Bool) (hj : xs[j]? = some b) : W.cell? (ad.add j) = some (.bool b) := by
  have hlt := (List.getElem?_eq_some_iff.mp hj).1
  obtain ⟨ad', e, hc⟩ := h.2.2 (by omega)
  cases e
  obtain ⟨c, h1, h2, h3⟩ := hc j b hj
  have := h3 0 (.bool b) (by rw [show c = [Value.bool b] from h2]; rfl)
  rwa [show j * Kd.bool.sz + 0 = j from by show j * 1 + 0 = j; omega] at this
set_option maxHeartbeats 4000000 in
set_option maxRecDepth 100000 in
theorem choice_any {w : World} {base g : Nat} {l : List Int} (h : AT w base g l) (Aa : Option Addr) (ca : Nat) (T : List Bool) (hlen : (T.length : Int) = tot l)
    (ha : Kd.bool.C w Aa T.length T) (hca : T.length ≤ ca) (hl : l.length ≤ 4096) (hn : ∀ n ∈ l, 0 ≤ n ∧ n ≤ 16777216) (ht : tot l ≤ 16777216) :
    Calls Try.prog 28 #[.pointer (some ⟨g, 0, none⟩), .slice Aa T.length ca] w fun e w' => ∃ v, e = .returned (.tuple #[v, .bool (decide (outL l (cand l T l.length) = T))]) ∧ w'.ownsRow w.heap.size 3 1 v (if outL l (cand l T l.length) = T then cand l T l.length else []).length (ints (if outL l (cand l T l.length) = T then cand l T l.length else [])) ∧ Below w.heap.size w w' := by
  obtain ⟨i0, hi, hz0, hz1, hz2⟩ := info_parts info3'
  have hAT := h
  have hlI : ((T.length : Int) != tot l) = false := by rw [hlen]; simp
  have hTl : T.length ≤ 16777216 := by omega
  have htn : ∀ k, 0 ≤ tot (l.take k) := fun k => tot_nonneg fun n h => (hn n (List.mem_of_mem_take h)).1
  have hends : ∀ k, k < l.length → ((pos l k : Nat) : Int) + wd (l.getD k 0) ≤ T.length := by
    intro k hk
    have h2 := tot_le (fun n h => (hn n h).1) (k + 1)
    have h3 : tot (l.take (k + 1)) = tot (l.take k) + wd (l.getD k 0) := by rw [List.take_succ_eq_append_getElem hk, tot_snoc]; simp [List.getD, hk]
    have := htn k
    unfold pos
    omega
  have hbegs : ∀ k, beg l k = ((pos l k : Nat) : Int) + 1 := fun k => by have := htn k; unfold beg pos; omega
  clear hlen htn
  generalize hRe : (if outL l (cand l T l.length) = T then cand l T l.length else []) = R
  generalize hKe : decide (outL l (cand l T l.length) = T) = ok
  have HRe := Aside0.mk hRe
  have HKe := Aside0.mk hKe
  clear hRe hKe
  obtain ⟨bv, sv, h1, h2, h3, h4⟩ := h
  obtain ⟨pb, qb, rfl⟩ := Hlp.own_slice h3
  obtain ⟨ps, qs, rfl⟩ := Hlp.own_slice h4
  have hc1 := cell_far h1 1 _ rfl
  have hc0 := cell_far h1 0 _ rfl
  have hc2 := cell_far h1 2 _ rfl
  go_enter Try.func28, Try.ntmps28
  go_wp2
  go_loopw [4, 21] (fun v i wr => ∃ k : Nat, k ≤ l.length ∧ i = .int .i64 k ∧ wr.ownsRow w.heap.size 3 1 v (cand l T k).length (ints (cand l T k)) ∧ Below w.heap.size w wr)
    (fun _ i _ => l.length - (intOf i).toNat)
  case atStart => exact ⟨0, Nat.zero_le _, rfl, World.ownsRow_nil w w.heap.size 3 1, Below.refl _ _⟩
  case round =>
    obtain ⟨k, hk, rfl, hv, hB⟩ := hrel
    by_cases hk1 : k < l.length
    · have hkI : (k : Int) < (l.length : Int) := by omega
      obtain ⟨rs, rfl⟩ := addr_of h4 (by omega)
      obtain ⟨rb, rfl⟩ := addr_of h3 (by omega)
      have hs := cell_below (row_cell h4 k (.int .i64 (l.getD k 0)) (by simp [ints, hk1])) hB
      have hb := cell_below (row_cell h3 k (.int .i64 (beg l k)) (by simp [ints, begs, beg, hk1])) hB
      have hg1 := cell_below hc1 hB
      have hg0 := cell_below hc0 hB
      have hzb := hn (l.getD k 0) (by simp [List.getD, hk1])
      have hend := hends k hk1
      obtain ⟨ad, rfl⟩ : ∃ ad, Aa = some ad := by
        obtain ⟨ad, e, _⟩ := ha.2.2 (by unfold wd at hend; have := (hn (l.getD k 0) (by simp [List.getD, hk1])).1; omega)
        exact ⟨ad, e⟩
      have hbeg := hbegs k
      have htk : cand l T (k + 1) = cand l T k ++ [idxP (part l T k)] := rfl
      have hkl : (cand l T k).length ≤ 4096 := by rw [cand_len]; omega
      have hpart : part l T k = (T.drop (pos l k + 1 + (l.getD k 0 - 1).toNat)).take (l.getD k 0).toNat := rfl
      have hwc := fun q => width_calls (l.getD k 0) hzb.1 hzb.2 (wr.drewN q)
      generalize part l T k = E at *
      generalize cand l T k = X at *
      generalize l.getD k 0 = n at *
      generalize pos l k = s at *
      generalize beg l k = b at *
      have hwn : wd n = 1 + n + max (n - 1) 0 := rfl
      generalize wd n = y at *
      obtain ⟨pv, qv, rfl⟩ := Hlp.own_slice hv
      obtain ⟨lo, hlo⟩ : ∃ lo : Nat, lo = s + 1 + (n - 1).toNat := ⟨_, rfl⟩
      obtain ⟨hi', hhi⟩ : ∃ hi' : Nat, hi' = s + 1 + (n - 1).toNat + n.toNat := ⟨_, rfl⟩
      have hEl : E.length = n.toNat := by rw [hpart, List.length_take, List.length_drop]; omega
      have hc : Kd.bool.C wr (some (ad.add lo)) E.length E := by
        refine C_boolsA (by omega) fun j bb hj => ?_
        have hjl := (List.getElem?_eq_some_iff.mp hj).1
        have : T[lo + j]? = some bb := by
          rw [hpart, List.getElem?_take, if_pos (by omega), List.getElem?_drop] at hj
          rw [← hj]; congr 1; omega
        rw [add_add]
        exact cell_below (bool_cell ha (lo + j) bb this) hB
      obtain ⟨ki, hki⟩ := indexg_ev E (by omega)
      clear hpart
      generalize idxP E = r at *
      have hwr0 : IntKind.i64.wrap (n - 1) = n - 1 := by rw [IntKind.wrap_i64]; omega
      have hwr1 : IntKind.i64.wrap (b + (n - 1)) = b + (n - 1) := by rw [IntKind.wrap_i64]; omega
      have hwr2 : IntKind.i64.wrap (b - 1) = b - 1 := by rw [IntKind.wrap_i64]; omega
      have hwr3 : IntKind.i64.wrap (b - 1 + y) = (hi' : Int) := by rw [IntKind.wrap_i64]; omega
      have hwr4 : IntKind.i64.wrap (b + 0) = b := by rw [IntKind.wrap_i64]; omega
      by_cases hn1 : n - 1 < 0
      · have hix : ∀ q A cc, Calls Try.prog 59 #[.slice A 0 cc, .bool true] (wr.drewN q) fun e w' => e = .returned (.int .i64 r) ∧ Drawn0 (wr.drewN q) w' := by
          intro q A cc
          have hnil : E = [] := List.eq_nil_of_length_eq_zero (by omega)
          rw [hnil] at hki
          exact slices_Index_bool_bool.calls ki A cc [] true r (wr.drewN q) ⟨rfl, by simp, fun h => absurd h (Nat.lt_irrefl 0)⟩ (Nat.zero_le _) hki
        have e2 : ((s : Int) + (1 + n + max (n - 1) 0)).toNat - (s + 1) = 0 := by omega
        go_wp2_with fail
        go_quiet (first | (go_at_call 55; exact Calls.quiet_of_same (hwc _)))
        have hvd : (wr.drewN nq).ownsRow w.heap.size 3 1 (.slice pv X.length qv) X.length (ints X) := hv
        have hBd : Below w.heap.size w (wr.drewN nq) := pw_below_drewN hB _
        try rw [e2]
        by_cases hca0 : ca = s + 1
        · rw [if_pos hca0]
          clear hca0 e2
          clear hbeg hwn hlo hhi hwr0 hwr1 hwr2 hwr3 hwr4 hend hc hki hEl
          go_wp2_with fail
          with_reducible refine (hix _ _ _).mono ?_
          rintro e w2 ⟨rfl, hD2⟩
          have hv2 := Hlp.own_below hvd hD2.below
          have hB2 := hBd.trans (hD2.below.mono hBd.size)
          go_wp2_with (first
            | (at_builtin; refine wpList_append_own_at _ rfl _ _ 22 rfl w.heap.size 3 i0 (.int .i64 0) 1 8 Try.underlying22 hi hz0 hz1 hz2 rfl (by decide) _ _ _ rfl (hv2.alloc _) ⟨w2.heap.size, 0, none⟩ 1 1 [.int .i64 r] rfl rfl (cell_one_new _ _ _) (by simp [Value.oneCell']) (by unfold maxLen; omega) (by omega) (by have := hB2.size; simp; omega) ?_; intro v3 w3 hown3 hgrow3 hnil3 hblk3))
          have hv3 := int_app hown3
          exact ⟨⟨k + 1, by omega, rfl, by rw [htk]; exact hv3, (hB2.alloc hB2.size _).grown hgrow3 (by have := hB2.size; simp; omega) (fun q hq => (hv2.lt q hq).1)⟩, by simp [intOf]; omega⟩
        · rw [if_neg hca0]
          clear hca0 e2
          clear hbeg hwn hlo hhi hwr0 hwr1 hwr2 hwr3 hwr4 hend hc hki hEl
          go_wp2_with fail
          with_reducible refine (hix _ _ _).mono ?_
          rintro e w2 ⟨rfl, hD2⟩
          have hv2 := Hlp.own_below hvd hD2.below
          have hB2 := hBd.trans (hD2.below.mono hBd.size)
          go_wp2_with (first
            | (at_builtin; refine wpList_append_own_at _ rfl _ _ 22 rfl w.heap.size 3 i0 (.int .i64 0) 1 8 Try.underlying22 hi hz0 hz1 hz2 rfl (by decide) _ _ _ rfl (hv2.alloc _) ⟨w2.heap.size, 0, none⟩ 1 1 [.int .i64 r] rfl rfl (cell_one_new _ _ _) (by simp [Value.oneCell']) (by unfold maxLen; omega) (by omega) (by have := hB2.size; simp; omega) ?_; intro v3 w3 hown3 hgrow3 hnil3 hblk3))
          have hv3 := int_app hown3
          exact ⟨⟨k + 1, by omega, rfl, by rw [htk]; exact hv3, (hB2.alloc hB2.size _).grown hgrow3 (by have := hB2.size; simp; omega) (fun q hq => (hv2.lt q hq).1)⟩, by simp [intOf]; omega⟩
      · have hn2 : (0 : Int) ≤ n - 1 := by omega
        have hmE : E.length = n.toNat := hEl
        have hix : ∀ q, Calls Try.prog 59 #[.slice (some (ad.add lo)) n.toNat (ca - lo), .bool true] (wr.drewN q) fun e w' => e = .returned (.int .i64 r) ∧ Drawn0 (wr.drewN q) w' := by
          intro q
          have := slices_Index_bool_bool.calls ki (some (ad.add lo)) (ca - lo) E true r (wr.drewN q) (Kd.C_drewN hc q) (by rw [hmE]; omega) hki
          rwa [hmE] at this
        go_wp2_with fail
        go_quiet (first | (go_at_call 55; exact Calls.quiet_of_same (hwc _)))
        have hvd : (wr.drewN nq).ownsRow w.heap.size 3 1 (.slice pv X.length qv) X.length (ints X) := hv
        have hBd : Below w.heap.size w (wr.drewN nq) := pw_below_drewN hB _
        first
        | rw [show ((s : Int) + 1 + (n - 1)).toNat = lo from by omega]
        | rw [show s + 1 + (n.toNat - 1) = lo from by omega]
        first
        | rw [show ((s : Int) + (1 + n + max (n - 1) 0)).toNat - lo = n.toNat from by omega]
        | rw [show hi' - lo = n.toNat from by omega]
        clear hbeg hwn hlo hhi hwr0 hwr1 hwr2 hwr3 hwr4 hend hc hki hEl
        go_wp2_with fail
        with_reducible refine (hix _).mono ?_
        rintro e w2 ⟨rfl, hD2⟩
        have hv2 := Hlp.own_below hvd hD2.below
        have hB2 := hBd.trans (hD2.below.mono hBd.size)
        go_wp2_with (first
          | (at_builtin; refine wpList_append_own_at _ rfl _ _ 22 rfl w.heap.size 3 i0 (.int .i64 0) 1 8 Try.underlying22 hi hz0 hz1 hz2 rfl (by decide) _ _ _ rfl (hv2.alloc _) ⟨w2.heap.size, 0, none⟩ 1 1 [.int .i64 r] rfl rfl (cell_one_new _ _ _) (by simp [Value.oneCell']) (by unfold maxLen; omega) (by omega) (by have := hB2.size; simp; omega) ?_; intro v3 w3 hown3 hgrow3 hnil3 hblk3))
        have hv3 := int_app hown3
        exact ⟨⟨k + 1, by omega, rfl, by rw [htk]; exact hv3, (hB2.alloc hB2.size _).grown hgrow3 (by have := hB2.size; simp; omega) (fun q hq => (hv2.lt q hq).1)⟩, by simp [intOf]; omega⟩
    · have hkI : ¬ (k : Int) < (l.length : Int) := by omega
      obtain rfl : k = l.length := by omega
      obtain ⟨A6, c6, rfl, hc6, hC6⟩ := C_of_ints hv
      have htr := truths_calls (hAT.below hB) A6 c6 (cand l T l.length) hC6 hc6 hl hn ht
      have hol := outL_le' (l := l) (ch := cand l T l.length) hn ht
      obtain ⟨ke, hke⟩ := equalg_ev (outL l (cand l T l.length)) T (by omega)
      clear hends hbegs hlI
      have hCa := ha
      have hCw := fun W (hW : Below w.heap.size w W) => Kd.C_below hCa hW
      generalize hCe : cand l T l.length = C at *
      generalize hOe : outL l C = O at *
      clear hCe hOe
      by_cases hO : O = T
      · rw [decide_eq_true hO] at hke
        have HO := Aside0.mk hO
        clear hO
        go_wp2_with (first
          | (go_at_call 25; with_reducible refine htr.mono ?_; rintro e w7 ⟨v7, rfl, hv7, hB7⟩; have hB7' := hB.trans (hB7.mono hB.size); obtain ⟨A7, c7, rfl, hc7, hC7⟩ := C_of_bools hv7; have heq := slices_Equal_bool_bool.calls ke A7 c7 O Aa ca T true w7 hC7 hc7 (hCw w7 hB7') hca hke)
          | (go_at_call 60; with_reducible refine heq.mono ?_; rintro e w8 ⟨rfl, hD8⟩))
        go_ret2
        obtain rfl : C = R := by rw [← HRe.out, if_pos HO.out]
        obtain rfl : true = ok := by rw [← HKe.out, decide_eq_true HO.out]
        exact ⟨_, rfl, Hlp.own_below (Hlp.own_below hv hB7) hD8.below, hB7'.trans (hD8.below.mono hB7'.size)⟩
      · rw [decide_eq_false hO] at hke
        have HO := Aside0.mk hO
        clear hO
        go_wp2_with (first
          | (go_at_call 25; with_reducible refine htr.mono ?_; rintro e w7 ⟨v7, rfl, hv7, hB7⟩; have hB7' := hB.trans (hB7.mono hB.size); obtain ⟨A7, c7, rfl, hc7, hC7⟩ := C_of_bools hv7; have heq := slices_Equal_bool_bool.calls ke A7 c7 O Aa ca T false w7 hC7 hc7 (hCw w7 hB7') hca hke)
          | (go_at_call 60; with_reducible refine heq.mono ?_; rintro e w8 ⟨rfl, hD8⟩))
        go_ret2
        obtain rfl : [] = R := by rw [← HRe.out, if_neg HO.out]
        obtain rfl : false = ok := by rw [← HKe.out, decide_eq_false HO.out]
        exact ⟨_, rfl, World.ownsRow_nil _ w.heap.size 3 1, hB7'.trans (hD8.below.mono hB7'.size)⟩
end Go.Proofs.Ytohgjbkiemnfnaa.Ato
