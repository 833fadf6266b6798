/- RupPlays: what the store tells is as the document says. Plain words; walks by hand. -/
import Derived.Test.YtohgjbkiemnfnaaUh
import Derived.Test.YtohgjbkiemnfnaaRn54
import Derived.Deep.QuietTactic
namespace Go.Proofs.Ytohgjbkiemnfnaa.Rup
open Go Go.RowKit Go.Proofs.Ytohgjbkiemnfnaa.R Go.Proofs.Ytohgjbkiemnfnaa.Hlp Go.Proofs.Ytohgjbkiemnfnaa.Aid Go.Proofs.Ytohgjbkiemnfnaa.Clause12 Go.Proofs.Ytohgjbkiemnfnaa.Clean12 Go.Proofs.YtohgjbkiemnfnaaW.PrintWords Go.Proofs.YtohgjbkiemnfnaaW.PrintLast Go.Proofs.YtohgjbkiemnfnaaW.PrintMore
attribute [local go_sem] max2_int min2_int max_two min_two
set_option linter.unusedVariables false
set_option linter.unusedSimpArgs false
/-! The document's words. -/
theorem refUnits_ev {X : List (List Int)} (hX : ClsOk X) (hXl : X.length ≤ 1000000) (lits : List Int) (hsz : lits.length + X.flatten.length ≤ 900000) : ∃ u ok, UnitsOut X lits u ok ∧ u.length ≤ 1000000 ∧ Ev (fun k => ferruleref22_Units.f k X lits) (u, ok) := by
  have h0 := cleanR_ev lits (by omega)
  unfold ferruleref22_Units.f
  by_cases h2 : (cl2 lits).2 = true
  · obtain ⟨hm, hL, hr, hC, hlen, hg, he⟩ := cl2_ok h2
    rw [he] at h0
    have hfl := flat_left X (cl2 lits).1
    obtain ⟨r, ⟨hO, hTl⟩, hE⟩ := refClose_ev X (cl2 lits).1 hX hXl hC (by omega)
    have hU : ∀ u ok, (ok = r.isSome ∧ (r = none → u = []) ∧ ∀ T, r = some T → u = (cleanP T).1) → UnitsOut X lits u ok := fun u ok h => by unfold UnitsOut; rw [if_pos h2]; exact ⟨r, hO, h⟩
    cases r with
    | none =>
      refine ⟨[], false, hU _ _ ⟨rfl, fun _ => rfl, fun T e => (by cases e)⟩, by simp, ?_⟩
      refine ev_bind h0 (ev_neg Bool.false_ne_true (ev_bind (refGood_ev lits (by omega)) (Ev.step (fun k => by rw [ferruleref22_Units.j0]) ?_)))
      refine ev_neg (by rw [hg]; decide) (ev_bind hE ?_)
      exact ev_neg (by decide) (Ev.now _)
    | some T =>
      have hT := hTl T rfl
      have hcl := clean_len T
      refine ⟨(cleanP T).1, true, hU _ _ ⟨rfl, fun e => (by cases e), fun T' e => (by rw [Option.some.inj e])⟩, ?_, ?_⟩
      · unfold cleanP
        split
        · simp
        · show (cleanD T).length ≤ _; omega
      · refine ev_bind h0 (ev_neg Bool.false_ne_true (ev_bind (refGood_ev lits (by omega)) (Ev.step (fun k => by rw [ferruleref22_Units.j0]) ?_)))
        refine ev_neg (by rw [hg]; decide) (ev_bind hE ?_)
        exact ev_pos rfl (ev_bind (cleanR_ev T (by omega)) (Ev.now _))
  · have hU : UnitsOut X lits [] false := by unfold UnitsOut; rw [if_neg h2]; exact ⟨rfl, rfl⟩
    refine ⟨[], false, hU, by simp, ev_bind h0 ?_⟩
    by_cases ha : (cleanP lits).2 = true
    · refine ev_pos ha (Ev.step (fun k => by rw [ferruleref22_Units.j0]) ?_)
      exact ev_pos rfl (Ev.now _)
    · have hg : gd lits = false := by
        rcases cl2_cases lits with ⟨h, _⟩ | ⟨_, _, h, _⟩ | ⟨_, h, _⟩
        · exact absurd h ha
        · exact absurd h h2
        · exact h
      refine ev_neg ha (ev_bind (refGood_ev lits (by omega)) (Ev.step (fun k => by rw [ferruleref22_Units.j0]) ?_))
      exact ev_pos (by rw [hg]; rfl) (Ev.now _)
theorem refFollows_l0 {X : List (List Int)} (c : List Int) (hL : ∀ x ∈ c, Lit1 x) (hc : c.length ≤ 1000000) {u : List Int} {ok : Bool} (hu : Ev (fun k => ferruleref22_Units.f k X (negs c)) (u, ok)) : ∀ m n : Nat, c.length - n = m → n ≤ c.length → Ev (fun k => ferruleref22_Follows.l0 k X c (negs (c.take n)) (n : Int)) (!ok) := by
  intro m
  induction m with
  | zero =>
    intro n hm hn
    rw [List.take_of_length_le (by omega)]
    refine Ev.step (fun k => by rw [ferruleref22_Follows.l0]) (ev_neg (by omega) ?_)
    exact ev_bind hu (Ev.now _)
  | succ m ih =>
    intro n hm hn
    have hlt : n < c.length := by omega
    obtain ⟨h0, h1, h2⟩ := hL _ (List.getElem_mem hlt)
    have hl : (negs (c.take n)).length = n := by unfold negs; rw [List.length_map, List.length_take]; omega
    refine Ev.step (fun k => by rw [ferruleref22_Follows.l0]) (ev_pos (by omega) (ev_pos (by omega) (ev_pos (by omega) ?_)))
    rw [rd_nat c n hlt, wrap64_in (x := -c[n]) (by omega) (by omega), ← negs_snoc hlt, wrap64_in (by omega) (by omega)]
    exact ih (n + 1) (by omega) (by omega)
theorem refFollows_ev {X : List (List Int)} (hX : ClsOk X) (hXl : X.length ≤ 1000000) (c : List Int) (hsz : c.length + X.flatten.length ≤ 900000) : ∃ b, Fol X c b ∧ Ev (fun k => ferruleref22_Follows.f k X c) b := by
  unfold ferruleref22_Follows.f
  by_cases hg : gd c = true
  · have hln : (negs c).length = c.length := by unfold negs; simp
    obtain ⟨u, ok, hU, _, hE⟩ := refUnits_ev hX hXl (negs c) (by omega)
    refine ⟨!ok, by unfold Fol; rw [if_pos hg]; exact ⟨u, ok, hU, rfl⟩, ev_bind (refGood_ev c (by omega)) (ev_pos hg ?_)⟩
    have := refFollows_l0 c ((gd_iff c).mp hg) (by omega) hE _ 0 rfl (Nat.zero_le _)
    exact this
  · refine ⟨false, by unfold Fol; rw [if_neg hg], ev_bind (refGood_ev c (by omega)) ?_⟩
    exact ev_neg hg (Ev.now _)
/-! The clauses, copied. -/
set_option maxHeartbeats 2000000 in
set_option maxRecDepth 100000 in
theorem clauses_calls {W : World} {g : Nat} {X : List (List Int)} (hS : SR W g X) (hXl : X.length ≤ 1000000) (hX : ∀ c ∈ X, c.length ≤ 1000000) :
    Calls Try.prog 50 #[.pointer (some ⟨g, 0, none⟩)] W fun e w' => ∃ v, e = .returned v ∧ RR w' W.heap.size v X ∧ Below W.heap.size W w' := by
  obtain ⟨i0, hi, hz0, hz1, hz2⟩ := info_parts infoH
  obtain ⟨A, c, hcell, hc, hC⟩ := hS
  go_enter Try.func50, Try.ntmps50
  go_wp2_with fail
  go_loopw [3, 11] (fun v3 v11 wr => ∃ i : Nat, i ≤ X.length ∧ v11 = .int .i64 i ∧ RR wr W.heap.size v3 (X.take i) ∧ Below W.heap.size W wr)
    (fun _ v11 _ => X.length - (intOf v11).toNat)
  case atStart => exact ⟨0, Nat.zero_le _, rfl, RR.nil _ _, Below.refl _ _⟩
  case round =>
    obtain ⟨i, hi0, rfl, hR, hB⟩ := hrel
    by_cases hi1 : i < X.length
    · have hiI : (i : Int) < (X.length : Int) := by omega
      obtain ⟨ad, A1, c1, rfl, hcell1, hc1, hR1⟩ := at_L1 (Kd.C_below hC hB) (i : Int) (by omega) hiI
      rw [Int.toNat_natCast] at hcell1
      rw [rdL_nat X i hi1] at hcell1 hc1 hR1
      have hdl := hX _ (List.getElem_mem hi1)
      have HSN := Aside0.mk (List.take_succ_eq_append_getElem hi1)
      have htl : (X.take i).length = i := by rw [List.length_take]; omega
      generalize X[i] = d at *
      have hcp := slices_Clone_int_int.calls A1 c1 d d wr hR1 hc1 (by unfold slices_Clone_int_int.f; rw [if_pos (by omega)])
      generalize X.take i = Y at *
      have h63 : Y.length + 1 ≤ maxLen := by unfold maxLen; omega
      have hby : (Y.length + 1) * 24 ≤ 140737488355328 := by omega
      go_wp2_with (first
        | (go_at_call 54; with_reducible refine hcp.mono ?_; rintro e w1 ⟨v1, rfl, hR5, hB5⟩; obtain ⟨A5, c5, rfl⟩ := Kd.R_slice hR5; have hR3 := hR.below hB5; have hXa := hR3.below ((Below.refl _ _).alloc (Nat.le_refl _) (.cells #[.slice A5 d.length c5] 22)); obtain ⟨us, hus, hput⟩ := hXa.open_; have hBw := hB.trans (hB5.mono hB.size); have hsz3 := hBw.size)
        | (at_builtin; refine wpList_append_own_at _ rfl _ _ 45 rfl W.heap.size 22 i0 (.slice none 0 0) 1 24 Try.underlying45 hi hz0 hz1 hz2 rfl (by decide) _ _ _ rfl hus ⟨w1.heap.size, 0, none⟩ 1 1 [.slice A5 d.length c5] rfl rfl (cell_one_new _ _ _) (by simp [Value.oneCell']) h63 hby (by simp; omega) ?_; intro v7 w7 hown7 hg7 hnil7 hloc7))
      have hX7 := hput w7 v7 A5 c5 d ((Hlp.own_base (own_of_R hR5) hB.size).alloc _) hg7 hown7
      have hB7 := (hBw.alloc hsz3 (.cells #[.slice A5 d.length c5] 22)).grown hg7 (by simp; omega) (fun q e => (hus.lt q e).1)
      exact ⟨⟨i + 1, hi1, rfl, by rw [HSN.out]; exact hX7, hB7⟩, by simp [intOf]; omega⟩
    · have hiI : ¬ (i : Int) < (X.length : Int) := by omega
      rw [List.take_of_length_le (by omega)] at hR
      go_wp2_with fail
      go_ret
      exact ⟨_, rfl, hR, hB⟩
/-! The law. -/
theorem drawn_quiet {P : Program} {f : FuncId} {args : Array Value} {w : World} {n : Nat} {v : Value} (h : Calls P f args (w.drewN n) fun e w' => e = .returned v ∧ Drawn0 (w.drewN n) w') : Calls P f args (w.drewN n) fun e w' => e = .returned v ∧ ∃ m, w' = (w.drewN n).drewN m :=
  h.mono fun _ _ ⟨he, ⟨m, hd⟩⟩ => ⟨he, m, hd⟩
theorem units_is {W : World} {g : Nat} {X : List (List Int)} (hS : SR W g X) (hX : ClsOk X) (hXl : X.length ≤ 1000000) {A : Option Addr} {cc : Nat} {lits : List Int} (hr : Kd.C (Kd.int .i64) W A lits.length lits) (hcc : lits.length ≤ cc) (hsz : lits.length + X.flatten.length ≤ 900000) {u : List Int} {ok : Bool} (hU : UnitsOut X lits u ok) :
    Calls Try.prog 51 #[.pointer (some ⟨g, 0, none⟩), .slice A lits.length cc] W fun e w' => ∃ A' c', e = .returned (.tuple #[.slice A' u.length c', .bool ok]) ∧ u.length ≤ c' ∧ Kd.C (Kd.int .i64) w' A' u.length u ∧ Below W.heap.size W w' := by
  refine (units_calls hS hX hXl hr hcc hsz).mono ?_
  rintro e w' ⟨v, u', ok', rfl, hR, hB, hU'⟩
  obtain ⟨rfl, rfl⟩ := hU'.one hU
  obtain ⟨A', c', rfl⟩ := Kd.R_slice hR
  have := Kd.R_reads' hR
  exact ⟨A', c', rfl, this.2.1, this.2.2, hB⟩
set_option maxHeartbeats 8000000 in
set_option maxRecDepth 100000 in
theorem plays_calls {w : World} {A Ac : Option Addr} {ca cc : Nat} {l : List S88} {c : List Int} (hr : Kd.C k88 w A l.length l) (hca : l.length ≤ ca) (hrc : Kd.C (Kd.int .i64) w Ac c.length c) (hcc : c.length ≤ cc) :
    Calls Try.prog 13 #[.slice A l.length ca, .slice Ac c.length cc] w fun e w' => e = .returned (.bool true) ∧ Below w.heap.size w w' := by
  have haw := awake_calls w
  obtain ⟨kf, hkf⟩ := (few_ev l).rounds
  have hfc := fun W (hB : Below w.heap.size w W) => ferrulelaw22_few.calls kf A ca l (fewP l) W (Kd.C_below hr hB) hca hkf
  by_cases hf : fewP l = true
  case neg =>
    rw [Bool.eq_false_iff.mpr hf] at hfc
    go_enter Try.func13, Try.ntmps13
    go_wp2_with (first
      | (go_at_call 42; with_reducible refine haw.mono ?_; rintro e w1 ⟨rfl, hB1⟩)
      | (go_at_call 43; with_reducible refine (hfc _ hB1).mono ?_; rintro e w2 ⟨rfl, hD2⟩))
    go_ret
    exact ⟨rfl, hB1.trans (hD2.below.mono hB1.size)⟩
  case pos =>
    have hpl := fun W (hB : Below w.heap.size w W) => played_calls (w := W) (Kd.C_below hr hB) hca hf
    obtain ⟨hl30, hl12⟩ := few_iff hf
    have hcl := play_clean l hl12 l.length (Nat.le_refl _)
    have hlen := play_len l l.length (Nat.le_refl _)
    rw [List.take_of_length_le (Nat.le_refl _)] at hcl hlen
    rw [hf] at hfc
    clear hf hkf
    generalize playX l = X at *
    by_cases h12 : (c.length : Int) > 12
    case pos =>
      have h12' : (12 : Int) < (c.length : Int) := h12
      go_enter Try.func13, Try.ntmps13
      go_wp2_with (first
        | (go_at_call 42; with_reducible refine haw.mono ?_; rintro e w1 ⟨rfl, hB1⟩)
        | (go_at_call 43; with_reducible refine (hfc _ hB1).mono ?_; rintro e w2 ⟨rfl, hD2⟩))
      go_ret
      exact ⟨rfl, hB1.trans (hD2.below.mono hB1.size)⟩
    have h12' : ¬ (12 : Int) < (c.length : Int) := h12
    have hflat := hcl.flat
    have hXok := hcl.ok
    have hc12 : ∀ d ∈ X, d.length ≤ 12 := fun d hd => (hcl d hd).2.2
    obtain ⟨kd, hkd⟩ := (refFind_ev X (fun d hd => by have := hc12 d hd; omega) (by omega) c (by omega)).rounds
    have hfi := fun W A0 c0 (hC : Kd.C (Kd.slice 3 (Kd.int .i64)) W A0 X.length X) (hc0 : X.length ≤ c0) (hB : Below w.heap.size w W) => ferruleref22_Find.calls kd A0 c0 X Ac cc c (findP X c) W hC hc0 (Kd.C_below hrc hB) hcc hkd
    have hhas := fun W g (hS : SR W g X) (hB : Below w.heap.size w W) => has_calls hS (Kd.C_below hrc hB) hcc (by omega)
    obtain ⟨u, ok, hU, hul, hE⟩ := refUnits_ev hXok (by omega) c (by omega)
    obtain ⟨ku, hku⟩ := hE.rounds
    have hru := fun W A0 c0 (hC : Kd.C (Kd.slice 3 (Kd.int .i64)) W A0 X.length X) (hc0 : X.length ≤ c0) (hB : Below w.heap.size w W) => ferruleref22_Units.calls ku A0 c0 X Ac cc c u ok W hC hc0 (Kd.C_below hrc hB) hcc hku
    have hpu := fun W g (hS : SR W g X) (hB : Below w.heap.size w W) => units_is hS hXok (by omega) (Kd.C_below hrc hB) hcc (by omega) hU
    obtain ⟨bf, hFb, hE2⟩ := refFollows_ev hXok (by omega) c (by omega)
    obtain ⟨kb, hkb⟩ := hE2.rounds
    have hrf := fun W A0 c0 (hC : Kd.C (Kd.slice 3 (Kd.int .i64)) W A0 X.length X) (hc0 : X.length ≤ c0) (hB : Below w.heap.size w W) => ferruleref22_Follows.calls kb A0 c0 X Ac cc c bf W hC hc0 (Kd.C_below hrc hB) hcc hkb
    have hpf := fun W g (hS : SR W g X) (hB : Below w.heap.size w W) => follows_is hS hXok (by omega) (Kd.C_below hrc hB) hcc (by omega) hFb
    have hcls := fun W g (hS : SR W g X) => clauses_calls hS (by omega) (fun d hd => by have := hc12 d hd; omega)
    clear hkd hU hE hku hE2 hkb hFb
    cases hq : decide (findP X c ≥ 0) with
    | true =>
      rw [hq] at hhas
      have hq1 : findP X c ≥ 0 := by simpa using hq
      have hq2 : (0 : Int) ≤ findP X c := hq1
      generalize findP X c = q at *
      clear hq
      go_enter Try.func13, Try.ntmps13
      go_wp2_with (first
        | (go_at_call 42; with_reducible refine haw.mono ?_; rintro e w1 ⟨rfl, hB1⟩)
        | (go_at_call 43; with_reducible refine (hfc _ hB1).mono ?_; rintro e w2 ⟨rfl, hD2⟩; have hBw2 := hB1.trans (hD2.below.mono hB1.size))
        | (go_at_call 44; with_reducible refine (hpl _ hBw2).mono ?_; rintro e w3 ⟨g, v, vx, rfl, hS3, hX3, hB3, hap3⟩; obtain ⟨Ax, cx, rfl, hcx, hCx⟩ := hX3.reads; have hBw3 := hBw2.trans (hB3.mono hBw2.size); have hR3 := hS3.sr; have hle := len_calls hR3; have hh3 := hhas w3 g hR3 hBw3)
        | (go_at_call 48; with_reducible refine hle.mono ?_; rintro e w4 ⟨rfl, hw4⟩; obtain rfl := hw4.symm)
        | (go_at_call 47; with_reducible refine hh3.mono ?_; rintro e w5 ⟨rfl, hB5⟩; have hBw5 := hBw3.trans (hB5.mono hBw3.size); have hC5 := Kd.C_below hCx hB5; have hf5 := hfi w5 Ax cx hC5 hcx hBw5; have hR5 := hR3.below hB5)
        | (go_at_call 49; with_reducible refine hf5.mono ?_; rintro e w6 ⟨rfl, hB6⟩; have hBw6 := hBw5.trans (hB6.mono hBw5.size); have hC6 := Kd.C_below hC5 hB6; have hR6 := hR5.below hB6; have hc6 := hcls w6 g hR6)
        | (go_at_call 50; with_reducible refine hc6.mono ?_; rintro e w7 ⟨v7, rfl, hRR7, hB7⟩; have hBw7 := hBw6.trans (hB7.mono hBw6.size); have hC7 := Kd.C_below hC6 hB7; have hR7 := hR6.below hB7; obtain ⟨A7, c7, rfl, hc7, hG7⟩ := hRR7.reads))
      have hsv := fun (d : List Int) (hd : d.length ≤ 1000000) => (refSame_ev d d (by omega)).rounds
      have hoo : (ok == ok) = true := by simp
      have hbb : (bf == bf) = true := by simp
      obtain ⟨ks, hks⟩ := hsv u hul
      rw [decide_eq_true rfl] at hks
      go_loopw [9] (fun v9 wr => ∃ i : Nat, i ≤ X.length ∧ v9 = .int .i64 i ∧ Below w7.heap.size w7 wr)
        (fun v9 _ => X.length - (intOf v9).toNat)
      case atStart => exact ⟨0, Nat.zero_le _, rfl, Below.refl _ _⟩
      case round =>
        obtain ⟨i, hi0, rfl, hB⟩ := hrel
        by_cases hi1 : i < X.length
        · have hiI : (i : Int) < (X.length : Int) := by omega
          obtain ⟨ad, A1, c1, rfl, hcell1, hc1, hR1⟩ := at_L1 (Kd.C_below hG7 hB) (i : Int) (by omega) hiI
          obtain ⟨ad2, A2, c2, rfl, hcell2, hc2, hR2⟩ := at_L1 (Kd.C_below hC7 hB) (i : Int) (by omega) hiI
          rw [Int.toNat_natCast] at hcell1 hcell2
          rw [rdL_nat X i hi1] at hcell1 hc1 hR1 hcell2 hc2 hR2
          have hd12 := hc12 _ (List.getElem_mem hi1)
          generalize X[i] = d at *
          obtain ⟨kz, hkz⟩ := hsv d (by omega)
          rw [decide_eq_true rfl] at hkz
          have hsame := fun n => drawn_quiet (ferruleref12_Same.calls kz A1 c1 d A2 c2 d true (wr.drewN n) (Kd.C_drewN hR1 n) hc1 (Kd.C_drewN hR2 n) hc2 hkz)
          clear hkz hsv hks
          go_wp2_with fail
          go_quiet (first | (go_at_call 35; exact Calls.quiet_of (hsame _)))
          go_wp2_with fail
          exact ⟨⟨i + 1, hi1, rfl, pw_below_drewN hB _⟩, by simp [intOf]; omega⟩
        · have hiI : ¬ (i : Int) < (X.length : Int) := by omega
          have hBwr := hBw7.trans (hB.mono hBw7.size)
          have hRr := hR7.below hB
          have hCr := Kd.C_below hC7 hB
          have hu8 := hpu wr g hRr hBwr
          clear hsv
          go_wp2_with (first
            | (go_at_call 51; with_reducible refine hu8.mono ?_; rintro e w8 ⟨A8, c8, rfl, hc8, hC8, hB8⟩; have hBw8 := hBwr.trans (hB8.mono hBwr.size); have hR8 := hRr.below hB8; have hX8 := Kd.C_below hCr hB8; have hru8 := hru w8 _ cx hX8 hcx hBw8)
            | (go_at_call 52; with_reducible refine hru8.mono ?_; rintro e w9 ⟨v9, rfl, hK9, hB9⟩; obtain ⟨A9, c9, rfl⟩ := Kd.R_slice hK9; have hBw9 := hBw8.trans (hB9.mono hBw8.size); have hR9 := hR8.below hB9; have hX9 := Kd.C_below hX8 hB9; have hC9 := Kd.R_reads' hK9; have hsm := ferruleref12_Same.calls ks A8 c8 u A9 c9 u true w9 (Kd.C_below hC8 hB9) hc8 hC9.2.2 hC9.2.1 hks)
            | (go_at_call 35; with_reducible refine hsm.mono ?_; rintro e w10 ⟨rfl, hD10⟩; have hBw10 := hBw9.trans (hD10.below.mono hBw9.size); have hR10 := hR9.below hD10.below; have hX10 := Kd.C_below hX9 hD10.below; have hpf10 := hpf w10 g hR10 hBw10)
            | (go_at_call 45; with_reducible refine hpf10.mono ?_; rintro e w11 ⟨rfl, hB11⟩; have hBw11 := hBw10.trans (hB11.mono hBw10.size); have hX11 := Kd.C_below hX10 hB11; have hrf11 := hrf w11 _ cx hX11 hcx hBw11)
            | (go_at_call 53; with_reducible refine hrf11.mono ?_; rintro e w12 ⟨rfl, hB12⟩))
          go_ret
          exact ⟨by simp, hBw11.trans (hB12.mono hBw11.size)⟩
    | false =>
      rw [hq] at hhas
      have hq1 : ¬ findP X c ≥ 0 := by simpa using hq
      have hq2 : ¬ (0 : Int) ≤ findP X c := hq1
      generalize findP X c = q at *
      clear hq
      go_enter Try.func13, Try.ntmps13
      go_wp2_with (first
        | (go_at_call 42; with_reducible refine haw.mono ?_; rintro e w1 ⟨rfl, hB1⟩)
        | (go_at_call 43; with_reducible refine (hfc _ hB1).mono ?_; rintro e w2 ⟨rfl, hD2⟩; have hBw2 := hB1.trans (hD2.below.mono hB1.size))
        | (go_at_call 44; with_reducible refine (hpl _ hBw2).mono ?_; rintro e w3 ⟨g, v, vx, rfl, hS3, hX3, hB3, hap3⟩; obtain ⟨Ax, cx, rfl, hcx, hCx⟩ := hX3.reads; have hBw3 := hBw2.trans (hB3.mono hBw2.size); have hR3 := hS3.sr; have hle := len_calls hR3; have hh3 := hhas w3 g hR3 hBw3)
        | (go_at_call 48; with_reducible refine hle.mono ?_; rintro e w4 ⟨rfl, hw4⟩; obtain rfl := hw4.symm)
        | (go_at_call 47; with_reducible refine hh3.mono ?_; rintro e w5 ⟨rfl, hB5⟩; have hBw5 := hBw3.trans (hB5.mono hBw3.size); have hC5 := Kd.C_below hCx hB5; have hf5 := hfi w5 Ax cx hC5 hcx hBw5; have hR5 := hR3.below hB5)
        | (go_at_call 49; with_reducible refine hf5.mono ?_; rintro e w6 ⟨rfl, hB6⟩; have hBw6 := hBw5.trans (hB6.mono hBw5.size); have hC6 := Kd.C_below hC5 hB6; have hR6 := hR5.below hB6; have hc6 := hcls w6 g hR6)
        | (go_at_call 50; with_reducible refine hc6.mono ?_; rintro e w7 ⟨v7, rfl, hRR7, hB7⟩; have hBw7 := hBw6.trans (hB7.mono hBw6.size); have hC7 := Kd.C_below hC6 hB7; have hR7 := hR6.below hB7; obtain ⟨A7, c7, rfl, hc7, hG7⟩ := hRR7.reads))
      have hsv := fun (d : List Int) (hd : d.length ≤ 1000000) => (refSame_ev d d (by omega)).rounds
      have hoo : (ok == ok) = true := by simp
      have hbb : (bf == bf) = true := by simp
      obtain ⟨ks, hks⟩ := hsv u hul
      rw [decide_eq_true rfl] at hks
      go_loopw [9] (fun v9 wr => ∃ i : Nat, i ≤ X.length ∧ v9 = .int .i64 i ∧ Below w7.heap.size w7 wr)
        (fun v9 _ => X.length - (intOf v9).toNat)
      case atStart => exact ⟨0, Nat.zero_le _, rfl, Below.refl _ _⟩
      case round =>
        obtain ⟨i, hi0, rfl, hB⟩ := hrel
        by_cases hi1 : i < X.length
        · have hiI : (i : Int) < (X.length : Int) := by omega
          obtain ⟨ad, A1, c1, rfl, hcell1, hc1, hR1⟩ := at_L1 (Kd.C_below hG7 hB) (i : Int) (by omega) hiI
          obtain ⟨ad2, A2, c2, rfl, hcell2, hc2, hR2⟩ := at_L1 (Kd.C_below hC7 hB) (i : Int) (by omega) hiI
          rw [Int.toNat_natCast] at hcell1 hcell2
          rw [rdL_nat X i hi1] at hcell1 hc1 hR1 hcell2 hc2 hR2
          have hd12 := hc12 _ (List.getElem_mem hi1)
          generalize X[i] = d at *
          obtain ⟨kz, hkz⟩ := hsv d (by omega)
          rw [decide_eq_true rfl] at hkz
          have hsame := fun n => drawn_quiet (ferruleref12_Same.calls kz A1 c1 d A2 c2 d true (wr.drewN n) (Kd.C_drewN hR1 n) hc1 (Kd.C_drewN hR2 n) hc2 hkz)
          clear hkz hsv hks
          go_wp2_with fail
          go_quiet (first | (go_at_call 35; exact Calls.quiet_of (hsame _)))
          go_wp2_with fail
          exact ⟨⟨i + 1, hi1, rfl, pw_below_drewN hB _⟩, by simp [intOf]; omega⟩
        · have hiI : ¬ (i : Int) < (X.length : Int) := by omega
          have hBwr := hBw7.trans (hB.mono hBw7.size)
          have hRr := hR7.below hB
          have hCr := Kd.C_below hC7 hB
          have hu8 := hpu wr g hRr hBwr
          clear hsv
          go_wp2_with (first
            | (go_at_call 51; with_reducible refine hu8.mono ?_; rintro e w8 ⟨A8, c8, rfl, hc8, hC8, hB8⟩; have hBw8 := hBwr.trans (hB8.mono hBwr.size); have hR8 := hRr.below hB8; have hX8 := Kd.C_below hCr hB8; have hru8 := hru w8 _ cx hX8 hcx hBw8)
            | (go_at_call 52; with_reducible refine hru8.mono ?_; rintro e w9 ⟨v9, rfl, hK9, hB9⟩; obtain ⟨A9, c9, rfl⟩ := Kd.R_slice hK9; have hBw9 := hBw8.trans (hB9.mono hBw8.size); have hR9 := hR8.below hB9; have hX9 := Kd.C_below hX8 hB9; have hC9 := Kd.R_reads' hK9; have hsm := ferruleref12_Same.calls ks A8 c8 u A9 c9 u true w9 (Kd.C_below hC8 hB9) hc8 hC9.2.2 hC9.2.1 hks)
            | (go_at_call 35; with_reducible refine hsm.mono ?_; rintro e w10 ⟨rfl, hD10⟩; have hBw10 := hBw9.trans (hD10.below.mono hBw9.size); have hR10 := hR9.below hD10.below; have hX10 := Kd.C_below hX9 hD10.below; have hpf10 := hpf w10 g hR10 hBw10)
            | (go_at_call 45; with_reducible refine hpf10.mono ?_; rintro e w11 ⟨rfl, hB11⟩; have hBw11 := hBw10.trans (hB11.mono hBw10.size); have hX11 := Kd.C_below hX10 hB11; have hrf11 := hrf w11 _ cx hX11 hcx hBw11)
            | (go_at_call 53; with_reducible refine hrf11.mono ?_; rintro e w12 ⟨rfl, hB12⟩))
          go_ret
          exact ⟨by simp, hBw11.trans (hB12.mono hBw11.size)⟩
end Go.Proofs.Ytohgjbkiemnfnaa.Rup
