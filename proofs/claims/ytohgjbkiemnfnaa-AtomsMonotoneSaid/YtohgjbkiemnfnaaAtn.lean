/- Where a package is at most a rank (ferrulelaw13.AtomsMonotone): the walk of the law, by hand over the table's contracts. -/
import Derived.Test.YtohgjbkiemnfnaaAtm
namespace Go.Proofs.Ytohgjbkiemnfnaa.Ato
open Go Go.RowKit Go.Proofs.Ytohgjbkiemnfnaa.X Go.Proofs.Ytohgjbkiemnfnaa.Hlp Go.Proofs.YtohgjbkiemnfnaaW.PrintWords Go.Proofs.YtohgjbkiemnfnaaW.PrintLast Go.Proofs.YtohgjbkiemnfnaaW.PrintMore Go.Proofs.Ytohgjbkiemnfnaa.Aid
attribute [local go_sem] max2_int min2_int max_two min_two
set_option linter.unusedVariables false
set_option linter.unusedSimpArgs false
/-- How many of the first k ranks a package has. -/
def cnt (r : Int) (k : Nat) : Int := if 0 ≤ r ∧ r < k then 1 else 0
theorem six (l : List Int) (h : ∀ n ∈ l, 0 ≤ n ∧ n ≤ 6) : tot l ≤ 12 * l.length := by
  induction l with
  | nil => simp [tot]
  | cons a r ih =>
    have h1 := h a (by simp)
    have h2 := ih fun n hn => h n (by simp [hn])
    simp only [tot, List.map_cons, List.sum_cons, wd, List.length_cons] at *
    omega
theorem bools_at {l : List Bool} {i : Nat} {b : Bool} (h : l[i]? = some b) : (bools l)[i]? = some (.bool b) := by simp [bools, h]
set_option maxHeartbeats 8000000 in
set_option maxRecDepth 100000 in
theorem mono_calls (A0 : Option Addr) (c0 : Nat) (l : List Int) (A1 : Option Addr) (c1 : Nat) (ch : List Int) (w : World) (hr0 : Kd.C (Kd.int .i64) w A0 l.length l) (hc0 : l.length ≤ c0) (hr1 : Kd.C (Kd.int .i64) w A1 ch.length ch) (hc1 : ch.length ≤ c1) :
    Calls Try.prog 4 #[.slice A0 l.length c0, .slice A1 ch.length c1] w fun e w' => e = .returned (.bool true) ∧ Below w.heap.size w w' := by
  obtain ⟨ks, bs, hks, hbs⟩ := small_ev l
  obtain ⟨kg, bg, hkg, hbg⟩ := good_ev l
  have hsm : ∀ W, Below w.heap.size w W → Calls Try.prog 15 #[.slice A0 l.length c0] W fun e w' => e = .returned (.bool bs) ∧ Drawn0 W w' := fun W hB => ferrulelaw13_small.calls ks A0 c0 l bs W (Kd.C_below hr0 hB) hc0 hks
  have hgd : ∀ W, Below w.heap.size w W → Calls Try.prog 17 #[.slice A0 l.length c0] W fun e w' => e = .returned (.bool bg) ∧ Drawn0 W w' := fun W hB => ferruleref13_Good.calls kg A0 c0 l bg W (Kd.C_below hr0 hB) hc0 hkg
  by_cases hbs1 : bs = true
  case neg =>
    simp only [Bool.not_eq_true] at hbs1
    subst hbs1
    go_enter Try.func4, Try.ntmps4
    go_wp2_with (first
      | (go_at_call 14; with_reducible refine (awake_calls _).mono ?_; rintro e w1 ⟨rfl, hB1⟩)
      | (go_at_call 15; with_reducible refine (hsm _ hB1).mono ?_; rintro e w2 ⟨rfl, hD2⟩; have hB2 := hB1.trans (hD2.below.mono hB1.size)))
    go_ret
    exact ⟨rfl, hB2⟩
  subst hbs1
  by_cases hbg1 : bg = true
  case neg =>
    simp only [Bool.not_eq_true] at hbg1
    subst hbg1
    go_enter Try.func4, Try.ntmps4
    go_wp2_with (first
      | (go_at_call 14; with_reducible refine (awake_calls _).mono ?_; rintro e w1 ⟨rfl, hB1⟩)
      | (go_at_call 15; with_reducible refine (hsm _ hB1).mono ?_; rintro e w2 ⟨rfl, hD2⟩; have hB2 := hB1.trans (hD2.below.mono hB1.size))
      | (go_at_call 17; with_reducible refine (hgd _ hB2).mono ?_; rintro e w3 ⟨rfl, hD3⟩; have hB3 := hB2.trans (hD3.below.mono hB2.size)))
    go_ret
    exact ⟨rfl, hB3⟩
  subst hbg1
  obtain ⟨hl6, hn6⟩ := hbs rfl
  obtain ⟨hl4, hng, htg⟩ := hbg rfl
  have hn : ∀ n ∈ l, 0 ≤ n ∧ n ≤ 6 := fun n h => by have := hn6 n h; have := hng n h; omega
  have h72 : tot l ≤ 72 := by have := six l hn; omega
  by_cases hch : 8 < ch.length
  · have hchI : (8 : Int) < (ch.length : Int) := by omega
    go_enter Try.func4, Try.ntmps4
    go_wp2_with (first
      | (go_at_call 14; with_reducible refine (awake_calls _).mono ?_; rintro e w1 ⟨rfl, hB1⟩)
      | (go_at_call 15; with_reducible refine (hsm _ hB1).mono ?_; rintro e w2 ⟨rfl, hD2⟩; have hB2 := hB1.trans (hD2.below.mono hB1.size))
      | (go_at_call 17; with_reducible refine (hgd _ hB2).mono ?_; rintro e w3 ⟨rfl, hD3⟩; have hB3 := hB2.trans (hD3.below.mono hB2.size)))
    go_ret
    exact ⟨rfl, hB3⟩
  have hchI : ¬ (8 : Int) < (ch.length : Int) := by omega
  have hmk : ∀ W, Below w.heap.size w W → Calls Try.prog 16 #[.slice A0 l.length c0] W _ := fun W hB => made A0 c0 l W (Kd.C_below hr0 hB) hc0 hl4 hng htg
  by_cases hout : (outL l ch).length = 0
  · go_enter Try.func4, Try.ntmps4
    go_wp2_with (first
      | (go_at_call 14; with_reducible refine (awake_calls _).mono ?_; rintro e w1 ⟨rfl, hB1⟩)
      | (go_at_call 15; with_reducible refine (hsm _ hB1).mono ?_; rintro e w2 ⟨rfl, hD2⟩; have hB2 := hB1.trans (hD2.below.mono hB1.size))
      | (go_at_call 17; with_reducible refine (hgd _ hB2).mono ?_; rintro e w3 ⟨rfl, hD3⟩; have hB3 := hB2.trans (hD3.below.mono hB2.size))
      | (go_at_call 16; with_reducible refine (hmk _ hB3).mono ?_; rintro e w4 ⟨g, rfl, hT, hB4⟩; have hB4' := hB3.trans (hB4.mono hB3.size); have htc := truths_calls hT A1 c1 ch (Kd.C_below hr1 hB4') hc1 hl4 hng htg)
      | (go_at_call 25; with_reducible refine htc.mono ?_; rintro e w5 ⟨v, rfl, hv, hB5⟩; have hB5' := hB4'.trans (hB5.mono hB4'.size); rw [hout] at hv; obtain ⟨pv, cv, rfl⟩ := Hlp.own_slice hv))
    go_ret
    exact ⟨rfl, hB5'⟩
  have hval : ch.length = l.length ∧ ∀ p, p < l.length → okc l ch p := by
    refine Classical.byContradiction fun h => hout ?_
    unfold outL
    rw [if_neg h]; rfl
  have heq : outL l ch = tr l ch l.length := by unfold outL; exact if_pos hval
  have hlen := tr_len (ch := ch) (fun n h => (hn n h).1) l.length (Nat.le_refl _)
  rw [List.take_length] at hlen
  rw [heq] at hout
  have htc : ∀ W base g, AT W base g l → Below w.heap.size w W → Calls Try.prog 25 #[.pointer (some ⟨g, 0, none⟩), .slice A1 ch.length c1] W fun e w' => ∃ v, e = .returned v ∧ w'.ownsRow W.heap.size 4 1 v (tr l ch l.length).length (bools (tr l ch l.length)) ∧ Below W.heap.size W w' := by
    intro W base g hT hB
    have := truths_calls hT A1 c1 ch (Kd.C_below hr1 hB) hc1 hl4 hng htg
    rwa [heq] at this
  have hat := fun p => tr_at (ch := ch) (fun n h => (hn n h).1) p l.length
  obtain ⟨T, hTd⟩ : ∃ T, T = tr l ch l.length := ⟨_, rfl⟩
  have hTl : T.length ≤ 72 := by rw [hTd]; omega
  have hTlen : tot l ≤ (T.length : Int) := by rw [hTd]; exact Int.le_of_eq hlen.symm
  rw [← hTd] at htc hout hat
  have hout1 : (T.length : Int) ≠ 0 := by omega
  have hout2 : ((T.length : Int) == 0) = false := beq_eq_false_iff_ne.mpr hout1
  obtain ⟨hcl, hokv⟩ := hval
  rw [hcl] at htc hchI ⊢
  clear hcl heq hTd hlen
  go_enter Try.func4, Try.ntmps4
  go_wp2_with (first
    | (go_at_call 14; with_reducible refine (awake_calls _).mono ?_; rintro e w1 ⟨rfl, hB1⟩)
    | (go_at_call 15; with_reducible refine (hsm _ hB1).mono ?_; rintro e w2 ⟨rfl, hD2⟩; have hB2 := hB1.trans (hD2.below.mono hB1.size))
    | (go_at_call 17; with_reducible refine (hgd _ hB2).mono ?_; rintro e w3 ⟨rfl, hD3⟩; have hB3 := hB2.trans (hD3.below.mono hB2.size))
    | (go_at_call 16; with_reducible refine (hmk _ hB3).mono ?_; rintro e w4 ⟨g, rfl, hT, hB4⟩; have hB4' := hB3.trans (hB4.mono hB3.size))
    | (go_at_call 25; with_reducible refine (htc _ _ _ hT hB4').mono ?_; rintro e w5 ⟨v, rfl, hv, hB5⟩; have hB5' := hB4'.trans (hB5.mono hB4'.size); have hT5 := hT.below hB5; obtain ⟨pv, cv, rfl⟩ := Hlp.own_slice hv))
  obtain ⟨ra, rfl⟩ := addr_of hv (by omega)
  go_loopw [7] (fun i wr => ∃ p : Nat, p ≤ l.length ∧ i = .int .i64 p ∧ Below w5.heap.size w5 wr) (fun i _ => l.length - (intOf i).toNat)
  case atStart => exact ⟨0, Nat.zero_le _, rfl, Below.refl _ _⟩
  case round =>
    obtain ⟨p, hp, rfl, hW⟩ := hrel
    by_cases hp1 : p < l.length
    · have hpI : (p : Int) < (l.length : Int) := by omega
      obtain ⟨ad, rfl, hcell0⟩ := Kd.at_int (Kd.C_below hr0 hB5') (p : Int) (by omega) hpI
      rw [Int.toNat_natCast, show rd l (p : Int) = l.getD p 0 from by simp [rd]] at hcell0
      have hpt := tr_len (ch := ch) (fun n h => (hn n h).1) p hp
      have hle := tot_le (fun n h => (hn n h).1) (p + 1)
      have hts : tot (l.take (p + 1)) = tot (l.take p) + wd (l.getD p 0) := by rw [List.take_succ_eq_append_getElem hp1, tot_snoc]; simp [List.getD, hp1]
      have hnn := hn (l.getD p 0) (by simp [List.getD, hp1])
      have hokp := hokv p hp1
      unfold okc at hokp
      have hbeg : beg l p = (((tr l ch p).length : Nat) : Int) + 1 := by unfold beg; rw [hpt]
      have hbb : 0 ≤ beg l p ∧ beg l p ≤ 73 := by have := tot_le (fun n h => (hn n h).1) p; unfold beg; omega
      have hv0 := fun W (h : Below w5.heap.size w5 W) => var0 (hT5.below h) p hp1
      have hv1 := fun W (h : Below w5.heap.size w5 W) k hk => var1 (hT5.below h) p hp1 k hk (by omega) (by omega) (by omega)
      have hv2 := fun W (h : Below w5.heap.size w5 W) k hk => var2 (hT5.below h) p hp1 k hk (by omega) (by omega) (by omega)
      rw [hbeg] at hv0 hv1 hv2
      have hb := hat p hp1 (Nat.le_refl _)
      generalize l.getD p 0 = n at *
      generalize ch.getD p 0 = r at *
      generalize (tr l ch p).length = s at *
      have hwn : wd n = 1 + n + max (n - 1) 0 := rfl
      have hsn : (s : Int) + wd n ≤ T.length := by omega
      clear hpt hts hbeg hle
      go_wp2
      go_loopw [8, 9] (fun c kk wr => ∃ k : Nat, k ≤ n.toNat ∧ kk = .int .i64 k ∧ c = .int .i64 (cnt r k) ∧ Below w5.heap.size w5 wr) (fun _ kk _ => n.toNat - (intOf kk).toNat)
      case atStart => exact ⟨0, Nat.zero_le _, rfl, by unfold cnt; rw [if_neg (by omega)], hW⟩
      case round =>
        clear hW
        obtain ⟨k, hk, rfl, rfl, hW⟩ := hrel
        by_cases hk1 : k < n.toNat
        · have hkI : (k : Int) < n := by omega
          have xW := cell_below' hcell0 hW
          obtain ⟨i2, hi2⟩ : ∃ i2 : Nat, i2 = s + 1 + (n - 1).toNat + k := ⟨_, rfl⟩
          have K2 : ∀ W, Below w5.heap.size w5 W → Calls Try.prog 22 #[.pointer (some ⟨g, 0, none⟩), .agg #[.int .i64 2, .int .i64 p, .int .i64 k]] W fun e w' => e = .returned (.int .i64 ((i2 : Int) + 1)) ∧ Below W.heap.size W w' := by
            intro W h
            have := hv2 W h k hkI
            rwa [show (s : Int) + 1 + 1 + (n - 1) + (k : Int) = (i2 : Int) + 1 by omega] at this
          have hi2l : (i2 : Int) < (T.length : Int) := by omega
          have f2 := row_cell hv i2 _ (bools_at (show T[i2]? = some (decide (r = (k : Int))) from by rw [hi2, Nat.add_assoc, Nat.add_assoc]; exact hb _ _ (by rw [← Nat.add_assoc]; exact blk2 n r k hkI)))
          clear hi2
          by_cases hk2 : (k : Int) + 2 < n
          · obtain ⟨i1, hi1⟩ : ∃ i1 : Nat, i1 = s + 1 + k := ⟨_, rfl⟩
            obtain ⟨i3, hi3⟩ : ∃ i3 : Nat, i3 = s + 1 + (k + 1) := ⟨_, rfl⟩
            have K1 : ∀ W, Below w5.heap.size w5 W → Calls Try.prog 22 #[.pointer (some ⟨g, 0, none⟩), .agg #[.int .i64 1, .int .i64 p, .int .i64 k]] W fun e w' => e = .returned (.int .i64 ((i1 : Int) + 1)) ∧ Below W.heap.size W w' := by
              intro W h
              have := hv1 W h k (by omega)
              rwa [show (s : Int) + 1 + 1 + (k : Int) = (i1 : Int) + 1 by omega] at this
            have K3 : ∀ W, Below w5.heap.size w5 W → Calls Try.prog 22 #[.pointer (some ⟨g, 0, none⟩), .agg #[.int .i64 1, .int .i64 p, .int .i64 ((k : Int) + 1)]] W fun e w' => e = .returned (.int .i64 ((i3 : Int) + 1)) ∧ Below W.heap.size W w' := by
              intro W h
              have := hv1 W h (k + 1) (by omega)
              rw [show ((k + 1 : Nat) : Int) = (k : Int) + 1 by omega] at this
              rwa [show (s : Int) + 1 + 1 + ((k : Int) + 1) = (i3 : Int) + 1 by omega] at this
            have hi1l : (i1 : Int) < (T.length : Int) := by omega
            have hi3l : (i3 : Int) < (T.length : Int) := by omega
            have f1 := row_cell hv i1 _ (bools_at (show T[i1]? = some (decide (r ≤ (k : Int))) from by rw [hi1, Nat.add_assoc]; exact hb _ _ (blk1 n r k (by omega))))
            have f3 := row_cell hv i3 _ (bools_at (show T[i3]? = some (decide (r ≤ ((k + 1 : Nat) : Int))) from by rw [hi3, Nat.add_assoc]; exact hb _ _ (blk1 n r (k + 1) (by omega))))
            clear hi1 hi3
            by_cases hr1 : r ≤ (k : Int)
            · rw [decide_eq_true hr1] at f1
              rw [decide_eq_true (show r ≤ ((k + 1 : Nat) : Int) by omega)] at f3
              have zW := cell_below' f1 hW
              by_cases hrk : r = (k : Int)
              · have hcn : cnt r (k + 1) = cnt r k + 1 := by unfold cnt; rw [if_pos (by omega), if_neg (by omega)]; rfl
                have hck : cnt r k = 0 := by unfold cnt; rw [if_neg (by omega)]
                have hd2 : decide (r = (k : Int)) = true := decide_eq_true hrk
                rw [hd2] at f2
                clear hrk hd2
                generalize cnt r k = cc at *
                go_wp2_with (first
                  | (go_at_call 22; with_reducible refine (K1 _ hW).mono ?_; rintro e W2 ⟨rfl, hbW2⟩; have hW2 := hW.trans (hbW2.mono hW.size); have xW2 := cell_below' hcell0 hW2; have yW2 := cell_below' f2 hW2; have zW2 := cell_below' f1 hW2; have uW2 := cell_below' f3 hW2)
                  | (go_at_call 22; with_reducible refine (K3 _ hW2).mono ?_; rintro e W3 ⟨rfl, hbW3⟩; have hW3 := hW2.trans (hbW3.mono hW2.size); have xW3 := cell_below' hcell0 hW3; have yW3 := cell_below' f2 hW3; have zW3 := cell_below' f1 hW3; have uW3 := cell_below' f3 hW3)
                  | (go_at_call 22; with_reducible refine (K2 _ hW3).mono ?_; rintro e W4 ⟨rfl, hbW4⟩; have hW4 := hW3.trans (hbW4.mono hW3.size); have xW4 := cell_below' hcell0 hW4; have yW4 := cell_below' f2 hW4))
                exact ⟨⟨k + 1, by omega, rfl, by first | (rw [hcn]; done) | (rw [hcn, hck]; rfl) | simp [hcn, hck], hW4⟩, by simp [intOf]; omega⟩
              · have hcn : cnt r (k + 1) = cnt r k := by unfold cnt; by_cases h : 0 ≤ r ∧ r < k; (rw [if_pos h, if_pos (by omega)]); (rw [if_neg h, if_neg (by omega)])
                have hck : True := trivial
                have hd2 : decide (r = (k : Int)) = false := decide_eq_false hrk
                rw [hd2] at f2
                clear hrk hd2
                generalize cnt r k = cc at *
                go_wp2_with (first
                  | (go_at_call 22; with_reducible refine (K1 _ hW).mono ?_; rintro e W2 ⟨rfl, hbW2⟩; have hW2 := hW.trans (hbW2.mono hW.size); have xW2 := cell_below' hcell0 hW2; have yW2 := cell_below' f2 hW2; have zW2 := cell_below' f1 hW2; have uW2 := cell_below' f3 hW2)
                  | (go_at_call 22; with_reducible refine (K3 _ hW2).mono ?_; rintro e W3 ⟨rfl, hbW3⟩; have hW3 := hW2.trans (hbW3.mono hW2.size); have xW3 := cell_below' hcell0 hW3; have yW3 := cell_below' f2 hW3; have zW3 := cell_below' f1 hW3; have uW3 := cell_below' f3 hW3)
                  | (go_at_call 22; with_reducible refine (K2 _ hW3).mono ?_; rintro e W4 ⟨rfl, hbW4⟩; have hW4 := hW3.trans (hbW4.mono hW3.size); have xW4 := cell_below' hcell0 hW4; have yW4 := cell_below' f2 hW4))
                exact ⟨⟨k + 1, by omega, rfl, by first | (rw [hcn]; done) | (rw [hcn, hck]; rfl) | simp [hcn, hck], hW4⟩, by simp [intOf]; omega⟩
            · rw [decide_eq_false hr1] at f1
              have zW := cell_below' f1 hW
              by_cases hrk : r = (k : Int)
              · have hcn : cnt r (k + 1) = cnt r k + 1 := by unfold cnt; rw [if_pos (by omega), if_neg (by omega)]; rfl
                have hck : cnt r k = 0 := by unfold cnt; rw [if_neg (by omega)]
                have hd2 : decide (r = (k : Int)) = true := decide_eq_true hrk
                rw [hd2] at f2
                clear hrk hd2
                generalize cnt r k = cc at *
                go_wp2_with (first
                  | (go_at_call 22; with_reducible refine (K1 _ hW).mono ?_; rintro e W2 ⟨rfl, hbW2⟩; have hW2 := hW.trans (hbW2.mono hW.size); have xW2 := cell_below' hcell0 hW2; have yW2 := cell_below' f2 hW2; have zW2 := cell_below' f1 hW2; have uW2 := cell_below' f3 hW2)
                  | (go_at_call 22; with_reducible refine (K2 _ hW2).mono ?_; rintro e W3 ⟨rfl, hbW3⟩; have hW3 := hW2.trans (hbW3.mono hW2.size); have xW3 := cell_below' hcell0 hW3; have yW3 := cell_below' f2 hW3))
                exact ⟨⟨k + 1, by omega, rfl, by first | (rw [hcn]; done) | (rw [hcn, hck]; rfl) | simp [hcn, hck], hW3⟩, by simp [intOf]; omega⟩
              · have hcn : cnt r (k + 1) = cnt r k := by unfold cnt; by_cases h : 0 ≤ r ∧ r < k; (rw [if_pos h, if_pos (by omega)]); (rw [if_neg h, if_neg (by omega)])
                have hck : True := trivial
                have hd2 : decide (r = (k : Int)) = false := decide_eq_false hrk
                rw [hd2] at f2
                clear hrk hd2
                generalize cnt r k = cc at *
                go_wp2_with (first
                  | (go_at_call 22; with_reducible refine (K1 _ hW).mono ?_; rintro e W2 ⟨rfl, hbW2⟩; have hW2 := hW.trans (hbW2.mono hW.size); have xW2 := cell_below' hcell0 hW2; have yW2 := cell_below' f2 hW2; have zW2 := cell_below' f1 hW2; have uW2 := cell_below' f3 hW2)
                  | (go_at_call 22; with_reducible refine (K2 _ hW2).mono ?_; rintro e W3 ⟨rfl, hbW3⟩; have hW3 := hW2.trans (hbW3.mono hW2.size); have xW3 := cell_below' hcell0 hW3; have yW3 := cell_below' f2 hW3))
                exact ⟨⟨k + 1, by omega, rfl, by first | (rw [hcn]; done) | (rw [hcn, hck]; rfl) | simp [hcn, hck], hW3⟩, by simp [intOf]; omega⟩
          · have yW := cell_below' f2 hW
            by_cases hrk : r = (k : Int)
            · have hcn : cnt r (k + 1) = cnt r k + 1 := by unfold cnt; rw [if_pos (by omega), if_neg (by omega)]; rfl
              have hck : cnt r k = 0 := by unfold cnt; rw [if_neg (by omega)]
              have hd2 : decide (r = (k : Int)) = true := decide_eq_true hrk
              rw [hd2] at f2
              clear hrk hd2
              generalize cnt r k = cc at *
              go_wp2_with (first
                | (go_at_call 22; with_reducible refine (K2 _ hW).mono ?_; rintro e W2 ⟨rfl, hbW2⟩; have hW2 := hW.trans (hbW2.mono hW.size); have xW2 := cell_below' hcell0 hW2; have yW2 := cell_below' f2 hW2))
              exact ⟨⟨k + 1, by omega, rfl, by first | (rw [hcn]; done) | (rw [hcn, hck]; rfl) | simp [hcn, hck], hW2⟩, by simp [intOf]; omega⟩
            · have hcn : cnt r (k + 1) = cnt r k := by unfold cnt; by_cases h : 0 ≤ r ∧ r < k; (rw [if_pos h, if_pos (by omega)]); (rw [if_neg h, if_neg (by omega)])
              have hd2 : decide (r = (k : Int)) = false := decide_eq_false hrk
              rw [hd2] at f2
              clear hrk hd2
              generalize cnt r k = cc at *
              go_wp2_with (first
                | (go_at_call 22; with_reducible refine (K2 _ hW).mono ?_; rintro e W2 ⟨rfl, hbW2⟩; have hW2 := hW.trans (hbW2.mono hW.size); have xW2 := cell_below' hcell0 hW2; have yW2 := cell_below' f2 hW2))
              exact ⟨⟨k + 1, by omega, rfl, by first | (rw [hcn]; done) | (rw [hcn, hck]; rfl) | simp [hcn, hck], hW2⟩, by simp [intOf]; omega⟩
        · have hkI : ¬ (k : Int) < n := by omega
          have hkn : (k : Int) ≤ n := by omega
          have hkn2 : n ≤ (k : Int) := by omega
          have hs1 : (s : Int) < (T.length : Int) := by omega
          have f0 := row_cell hv s _ (bools_at (show T[s]? = some (decide (0 ≤ r)) from hb 0 _ (blk0 n r)))
          have hcc : cnt r k = if 0 ≤ r then 1 else 0 := by
            unfold cnt
            by_cases h : 0 ≤ r
            · rw [if_pos ⟨h, by omega⟩, if_pos h]
            · rw [if_neg (fun x => h x.1), if_neg h]
          have xW := cell_below' hcell0 hW
          generalize cnt r k = cc at *
          by_cases h0 : 0 ≤ r
          · rw [if_pos h0] at hcc
            rw [decide_eq_true h0] at f0
            clear h0
            subst hcc
            go_wp2_with (first
              | (go_at_call 22; with_reducible refine (hv0 _ hW).mono ?_; rintro e W2 ⟨rfl, hbW2⟩; have hW2 := hW.trans (hbW2.mono hW.size); have yW2 := cell_below' f0 hW2))
            exact ⟨⟨p + 1, by omega, rfl, hW2⟩, by simp [intOf]; omega⟩
          · rw [if_neg h0] at hcc
            rw [decide_eq_false h0] at f0
            clear h0
            subst hcc
            go_wp2_with (first
              | (go_at_call 22; with_reducible refine (hv0 _ hW).mono ?_; rintro e W2 ⟨rfl, hbW2⟩; have hW2 := hW.trans (hbW2.mono hW.size); have yW2 := cell_below' f0 hW2))
            exact ⟨⟨p + 1, by omega, rfl, hW2⟩, by simp [intOf]; omega⟩
    · have hpI : ¬ (p : Int) < (l.length : Int) := by omega
      go_wp2
      go_ret
      exact ⟨rfl, hB5'.trans (hW.mono hB5'.size)⟩
end Go.Proofs.Ytohgjbkiemnfnaa.Ato
