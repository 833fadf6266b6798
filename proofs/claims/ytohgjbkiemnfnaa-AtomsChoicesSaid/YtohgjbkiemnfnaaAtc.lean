/- The table of atoms: the choice of a choice's truths. A walk by hand. -/
import Derived.Test.YtohgjbkiemnfnaaAtq
import Derived.Test.YtohgjbkiemnfnaaAtm
namespace Go.Proofs.Ytohgjbkiemnfnaa.Ato
open Go Go.RowKit Go.Proofs.Ytohgjbkiemnfnaa.X Go.Proofs.Ytohgjbkiemnfnaa.Hlp Go.Proofs.YtohgjbkiemnfnaaW.PrintWords Go.Proofs.YtohgjbkiemnfnaaW.PrintLast Go.Proofs.YtohgjbkiemnfnaaW.PrintMore Go.Proofs.Ytohgjbkiemnfnaa.Aid
attribute [local go_sem] max2_int min2_int max_two min_two
set_option linter.unusedVariables false
set_option linter.unusedSimpArgs false
theorem C_bools {W : World} {ra lo : Nat} {xs : List Bool} (hl : xs.length ≤ 9223372036854775807) (h : ∀ j b, xs[j]? = some b → W.cell? ⟨ra, lo + j, none⟩ = some (.bool b)) : Kd.bool.C W (some ⟨ra, lo, none⟩) xs.length xs := by
  refine ⟨rfl, hl, fun _ => ⟨_, rfl, fun j p hj => ⟨[.bool p], rfl, rfl, fun i u hu => ?_⟩⟩⟩
  cases i with
  | succ i => simp at hu
  | zero =>
    obtain rfl : Value.bool p = u := by simpa using hu
    show W.cell? ((⟨ra, lo, none⟩ : Addr).add (j * 1 + 0)) = _
    rw [show j * 1 + 0 = j by omega, show (⟨ra, lo, none⟩ : Addr).add j = ⟨ra, lo + j, none⟩ from by unfold Addr.add; split <;> simp_all]
    exact h j p hj
theorem C_of_bools {w : World} {base : Nat} {v : Value} {l : List Bool} (h : w.ownsRow base 4 1 v l.length (bools l)) : ∃ A c, v = .slice A l.length c ∧ l.length ≤ c ∧ Kd.C Kd.bool w A l.length l := by
  obtain ⟨p, c, rfl⟩ := Hlp.own_slice h
  have hR : Kd.R Kd.bool 4 w base (fun _ => True) (.slice p l.length c) l := ⟨fun _ _ => trivial, encs Value.bool l, ⟨by show (encs Value.bool l).length = l.length * 1; simp [encs], h.2⟩, Kd.reps_scalar l⟩
  have := Kd.R_reads' hR
  exact ⟨p, c, rfl, this.2.1, this.2.2⟩
theorem C_of_ints {w : World} {base : Nat} {v : Value} {l : List Int} (h : w.ownsRow base 3 1 v l.length (ints l)) : ∃ A c, v = .slice A l.length c ∧ l.length ≤ c ∧ Kd.C (Kd.int .i64) w A l.length l := by
  obtain ⟨p, c, rfl⟩ := Hlp.own_slice h
  have hR : Kd.R (Kd.int .i64) 3 w base (fun _ => True) (.slice p l.length c) l := ⟨fun _ _ => trivial, encs (Value.int .i64) l, ⟨by show (encs (Value.int .i64) l).length = l.length * 1; simp [encs], h.2⟩, Kd.reps_scalar l⟩
  have := Kd.R_reads' hR
  exact ⟨p, c, rfl, this.2.1, this.2.2⟩
theorem int_app {W1 : World} {base : Nat} {v' : Value} {xs : List Int} {b : Int} (h : W1.ownsRow base 3 1 v' (xs.length + 1) (ints xs ++ [.int .i64 b])) : W1.ownsRow base 3 1 v' (xs ++ [b]).length (ints (xs ++ [b])) := by
  simpa [ints] using h

set_option maxHeartbeats 4000000 in
set_option maxRecDepth 100000 in
theorem choice_calls {w : World} {base g : Nat} {l : List Int} (h : AT w base g l) (ra ca ba : Nat) (ch : List Int) (T : List Bool) (hT : T = tr l ch l.length) (hcl : ch.length = l.length) (hok : ∀ p, p < l.length → okc l ch p)
    (ha : w.ownsRow ba 4 1 (.slice (some ⟨ra, 0, none⟩) T.length ca) T.length (bools T)) (hl : l.length ≤ 4096) (hn : ∀ n ∈ l, 0 ≤ n ∧ n ≤ 16777216) (ht : tot l ≤ 16777216) :
    Calls Try.prog 28 #[.pointer (some ⟨g, 0, none⟩), .slice (some ⟨ra, 0, none⟩) T.length ca] w fun e w' => ∃ v, e = .returned (.tuple #[v, .bool true]) ∧ w'.ownsRow w.heap.size 3 1 v ch.length (ints ch) ∧ Below w.heap.size w w' := by
  obtain ⟨i0, hi, hz0, hz1, hz2⟩ := info_parts info3'
  have hAT := h
  have hlen : (T.length : Int) = tot l := by
    rw [hT]; have := tr_len (ch := ch) (fun n h => (hn n h).1) l.length (Nat.le_refl _); rwa [List.take_length] at this
  have hlI : ((T.length : Int) != tot l) = false := by rw [hlen]; simp
  have hTl : T.length ≤ 16777216 := by omega
  have hca : T.length ≤ ca := by
    rcases ha.2 with ⟨h, _⟩ | ⟨_, _, _, e, _, _, h, _⟩
    · cases h
    · cases e; exact h
  have hat := fun p => tr_at (ch := ch) (fun n h => (hn n h).1) p l.length
  rw [← hT] at hat
  have hout : outL l ch = T := by unfold outL; rw [if_pos ⟨hcl, hok⟩, hT]
  have hends : ∀ k, k < l.length → ((tr l ch k).length : Int) + wd (l.getD k 0) ≤ T.length := by
    intro k hk
    have h1 := tr_len (ch := ch) (fun n h => (hn n h).1) k (by omega)
    have h2 := tot_le (fun n h => (hn n h).1) (k + 1)
    have h3 : tot (l.take (k + 1)) = tot (l.take k) + wd (l.getD k 0) := by rw [List.take_succ_eq_append_getElem hk, tot_snoc]; simp [List.getD, hk]
    omega
  have hbegs : ∀ k, k ≤ l.length → beg l k = (((tr l ch k).length : Nat) : Int) + 1 := fun k hk => by unfold beg; rw [tr_len (ch := ch) (fun n h => (hn n h).1) k hk]
  clear hT hlen
  obtain ⟨bv, sv, h1, h2, h3, h4⟩ := h
  obtain ⟨pb, qb, rfl⟩ := Hlp.own_slice h3
  obtain ⟨ps, qs, rfl⟩ := Hlp.own_slice h4
  have hc1 := cell_far h1 1 _ rfl
  have hc0 := cell_far h1 0 _ rfl
  have hc2 := cell_far h1 2 _ rfl
  go_enter Try.func28, Try.ntmps28
  go_wp2
  go_loopw [4, 21] (fun v i wr => ∃ k : Nat, k ≤ l.length ∧ i = .int .i64 k ∧ wr.ownsRow w.heap.size 3 1 v (ch.take k).length (ints (ch.take k)) ∧ Below w.heap.size w wr)
    (fun _ i _ => l.length - (intOf i).toNat)
  case atStart => exact ⟨0, Nat.zero_le _, rfl, World.ownsRow_nil w w.heap.size 3 1, Below.refl _ _⟩
  case round =>
    obtain ⟨k, hk, rfl, hv, hB⟩ := hrel
    by_cases hk1 : k < l.length
    · have hkI : (k : Int) < (l.length : Int) := by omega
      obtain ⟨rs, rfl⟩ := addr_of h4 (by omega)
      obtain ⟨rb, rfl⟩ := addr_of h3 (by omega)
      have hs := cell_below (row_cell h4 k (.int .i64 (l.getD k 0)) (by simp [ints, hk1])) hB
      have hb := cell_below (row_cell h3 k (.int .i64 (beg l k)) (by simp [ints, begs, beg, hk1])) hB
      have hg1 := cell_below hc1 hB
      have hg0 := cell_below hc0 hB
      have hzb := hn (l.getD k 0) (by simp [List.getD, hk1])
      have hokk := hok k hk1
      unfold okc at hokk
      have hend := hends k hk1
      have hbeg := hbegs k hk
      have hatk := hat k hk1 (Nat.le_refl _)
      have htk : ch.take (k + 1) = ch.take k ++ [ch.getD k 0] := by rw [List.take_succ_eq_append_getElem (by omega)]; simp [List.getD, show k < ch.length by omega]
      have hkl : (ch.take k).length ≤ 4096 := by simp; omega
      have hwc := fun q => width_calls (l.getD k 0) hzb.1 hzb.2 (wr.drewN q)
      generalize ch.take k = X at *
      generalize l.getD k 0 = n at *
      generalize ch.getD k 0 = r at *
      generalize (tr l ch k).length = s at *
      generalize beg l k = b at *
      have hwn : wd n = 1 + n + max (n - 1) 0 := rfl
      generalize wd n = y at *
      obtain ⟨pv, qv, rfl⟩ := Hlp.own_slice hv
      obtain ⟨lo, hlo⟩ : ∃ lo : Nat, lo = s + 1 + (n - 1).toNat := ⟨_, rfl⟩
      obtain ⟨hi', hhi⟩ : ∃ hi' : Nat, hi' = s + 1 + (n - 1).toNat + n.toNat := ⟨_, rfl⟩
      have hc : Kd.bool.C wr (some ⟨ra, lo, none⟩) (eqs r n.toNat).length (eqs r n.toNat) := by
        refine C_bools (by rw [eqs_len]; omega) fun j bb hj => ?_
        have hjl := (List.getElem?_eq_some_iff.mp hj).1
        rw [eqs_len] at hjl
        have e1 : bb = decide (r = (j : Int)) := by
          unfold eqs at hj
          rw [List.getElem?_map, List.getElem?_range hjl] at hj
          exact (Option.some.inj hj).symm
        have := hatk _ _ (blk2 n r j (by omega))
        rw [show s + (1 + (n - 1).toNat + j) = lo + j by omega, ← e1] at this
        exact cell_below (row_cell ha (lo + j) (.bool bb) (by simp [bools, this])) hB
      obtain ⟨ki, hki⟩ := index_ev r n.toNat (by omega) (by omega)
      have hwr0 : IntKind.i64.wrap (n - 1) = n - 1 := by rw [IntKind.wrap_i64]; omega
      have hwr1 : IntKind.i64.wrap (b + (n - 1)) = b + (n - 1) := by rw [IntKind.wrap_i64]; omega
      have hwr2 : IntKind.i64.wrap (b - 1) = b - 1 := by rw [IntKind.wrap_i64]; omega
      have hwr3 : IntKind.i64.wrap (b - 1 + y) = (hi' : Int) := by rw [IntKind.wrap_i64]; omega
      have hwr4 : IntKind.i64.wrap (b + 0) = b := by rw [IntKind.wrap_i64]; omega
      by_cases hn1 : n - 1 < 0
      · have hix : ∀ q A cc, Calls Try.prog 59 #[.slice A 0 cc, .bool true] (wr.drewN q) fun e w' => e = .returned (.int .i64 r) ∧ Drawn0 (wr.drewN q) w' := by
          intro q A cc
          have hnil : eqs r n.toNat = [] := by rw [show n.toNat = 0 by omega]; rfl
          rw [hnil] at hki
          exact slices_Index_bool_bool.calls ki A cc [] true r (wr.drewN q) ⟨rfl, by simp, fun h => absurd h (Nat.lt_irrefl 0)⟩ (Nat.zero_le _) hki
        have e2 : ((s : Int) + (1 + n + max (n - 1) 0)).toNat - (s + 1) = 0 := by omega
        go_wp2_with fail
        go_quiet (first | (go_at_call 55; exact Calls.quiet_of_same (hwc _)))
        have hvd : (wr.drewN nq).ownsRow w.heap.size 3 1 (.slice pv X.length qv) X.length (ints X) := hv
        have hBd : Below w.heap.size w (wr.drewN nq) := pw_below_drewN hB _
        try rw [e2]
        by_cases hca0 : ca = s + 1
        · rw [if_pos hca0]
          clear hca0 e2
          clear hbeg hwn hlo hhi hwr0 hwr1 hwr2 hwr3 hwr4 hatk hend hokk hc hki
          go_wp2_with fail
          with_reducible refine (hix _ _ _).mono ?_
          rintro e w2 ⟨rfl, hD2⟩
          have hv2 := Hlp.own_below hvd hD2.below
          have hB2 := hBd.trans (hD2.below.mono hBd.size)
          go_wp2_with (first
            | (at_builtin; refine wpList_append_own_at _ rfl _ _ 22 rfl w.heap.size 3 i0 (.int .i64 0) 1 8 Try.underlying22 hi hz0 hz1 hz2 rfl (by decide) _ _ _ rfl (hv2.alloc _) ⟨w2.heap.size, 0, none⟩ 1 1 [.int .i64 r] rfl rfl (cell_one_new _ _ _) (by simp [Value.oneCell']) (by unfold maxLen; omega) (by omega) (by have := hB2.size; simp; omega) ?_; intro v3 w3 hown3 hgrow3 hnil3 hblk3))
          have hv3 := int_app hown3
          exact ⟨⟨k + 1, by omega, rfl, by rw [htk]; exact hv3, (hB2.alloc hB2.size _).grown hgrow3 (by have := hB2.size; simp; omega) (fun q hq => (hv2.lt q hq).1)⟩, by simp [intOf]; omega⟩
        · rw [if_neg hca0]
          clear hca0 e2
          clear hbeg hwn hlo hhi hwr0 hwr1 hwr2 hwr3 hwr4 hatk hend hokk hc hki
          go_wp2_with fail
          with_reducible refine (hix _ _ _).mono ?_
          rintro e w2 ⟨rfl, hD2⟩
          have hv2 := Hlp.own_below hvd hD2.below
          have hB2 := hBd.trans (hD2.below.mono hBd.size)
          go_wp2_with (first
            | (at_builtin; refine wpList_append_own_at _ rfl _ _ 22 rfl w.heap.size 3 i0 (.int .i64 0) 1 8 Try.underlying22 hi hz0 hz1 hz2 rfl (by decide) _ _ _ rfl (hv2.alloc _) ⟨w2.heap.size, 0, none⟩ 1 1 [.int .i64 r] rfl rfl (cell_one_new _ _ _) (by simp [Value.oneCell']) (by unfold maxLen; omega) (by omega) (by have := hB2.size; simp; omega) ?_; intro v3 w3 hown3 hgrow3 hnil3 hblk3))
          have hv3 := int_app hown3
          exact ⟨⟨k + 1, by omega, rfl, by rw [htk]; exact hv3, (hB2.alloc hB2.size _).grown hgrow3 (by have := hB2.size; simp; omega) (fun q hq => (hv2.lt q hq).1)⟩, by simp [intOf]; omega⟩
      · have hn2 : (0 : Int) ≤ n - 1 := by omega
        have hmE : (eqs r n.toNat).length = n.toNat := eqs_len _ _
        have hix : ∀ q, Calls Try.prog 59 #[.slice (some ⟨ra, lo, none⟩) n.toNat (ca - lo), .bool true] (wr.drewN q) fun e w' => e = .returned (.int .i64 r) ∧ Drawn0 (wr.drewN q) w' := by
          intro q
          have := slices_Index_bool_bool.calls ki (some ⟨ra, lo, none⟩) (ca - lo) (eqs r n.toNat) true r (wr.drewN q) (Kd.C_drewN hc q) (by rw [hmE]; omega) hki
          rwa [hmE] at this
        go_wp2_with fail
        go_quiet (first | (go_at_call 55; exact Calls.quiet_of_same (hwc _)))
        have hvd : (wr.drewN nq).ownsRow w.heap.size 3 1 (.slice pv X.length qv) X.length (ints X) := hv
        have hBd : Below w.heap.size w (wr.drewN nq) := pw_below_drewN hB _
        first
        | rw [show ((s : Int) + 1 + (n - 1)).toNat = lo from by omega]
        | rw [show s + 1 + (n.toNat - 1) = lo from by omega]
        first
        | rw [show ((s : Int) + (1 + n + max (n - 1) 0)).toNat - lo = n.toNat from by omega]
        | rw [show hi' - lo = n.toNat from by omega]
        clear hbeg hwn hlo hhi hwr0 hwr1 hwr2 hwr3 hwr4 hatk hend hokk hc hki
        go_wp2_with fail
        with_reducible refine (hix _).mono ?_
        rintro e w2 ⟨rfl, hD2⟩
        have hv2 := Hlp.own_below hvd hD2.below
        have hB2 := hBd.trans (hD2.below.mono hBd.size)
        go_wp2_with (first
          | (at_builtin; refine wpList_append_own_at _ rfl _ _ 22 rfl w.heap.size 3 i0 (.int .i64 0) 1 8 Try.underlying22 hi hz0 hz1 hz2 rfl (by decide) _ _ _ rfl (hv2.alloc _) ⟨w2.heap.size, 0, none⟩ 1 1 [.int .i64 r] rfl rfl (cell_one_new _ _ _) (by simp [Value.oneCell']) (by unfold maxLen; omega) (by omega) (by have := hB2.size; simp; omega) ?_; intro v3 w3 hown3 hgrow3 hnil3 hblk3))
        have hv3 := int_app hown3
        exact ⟨⟨k + 1, by omega, rfl, by rw [htk]; exact hv3, (hB2.alloc hB2.size _).grown hgrow3 (by have := hB2.size; simp; omega) (fun q hq => (hv2.lt q hq).1)⟩, by simp [intOf]; omega⟩
    · have hkI : ¬ (k : Int) < (l.length : Int) := by omega
      rw [List.take_of_length_le (by omega)] at hv
      obtain ⟨A6, c6, rfl, hc6, hC6⟩ := C_of_ints hv
      have htr := truths_calls (hAT.below hB) A6 c6 ch hC6 hc6 hl hn ht
      rw [hout] at htr
      obtain ⟨ke, hke⟩ := equal_ev T (by omega)
      obtain ⟨Aa, ca', e, hca2, hCa⟩ := C_of_bools ha
      cases e
      have hCw := fun W (hW : Below w.heap.size w W) => Kd.C_below hCa hW
      clear hcl hout hat hends hbegs hok hlI
      go_wp2_with (first
        | (go_at_call 25; with_reducible refine htr.mono ?_; rintro e w7 ⟨v7, rfl, hv7, hB7⟩; have hB7' := hB.trans (hB7.mono hB.size); obtain ⟨A7, c7, rfl, hc7, hC7⟩ := C_of_bools hv7; have heq := slices_Equal_bool_bool.calls ke A7 c7 T (some ⟨ra, 0, none⟩) ca T true w7 hC7 hc7 (hCw w7 hB7') hca hke)
        | (go_at_call 60; with_reducible refine heq.mono ?_; rintro e w8 ⟨rfl, hD8⟩))
      go_ret2
      exact ⟨_, rfl, Hlp.own_below (Hlp.own_below hv hB7) hD8.below, hB7'.trans (hD8.below.mono hB7'.size)⟩
end Go.Proofs.Ytohgjbkiemnfnaa.Ato
