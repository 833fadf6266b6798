/- The truths of any choice (ferrulelaw13.AtomsTruths): the walk of the law, by hand over the table's contracts. -/
import Derived.Test.YtohgjbkiemnfnaaAtc
namespace Go.Proofs.Ytohgjbkiemnfnaa.Ato
open Go Go.RowKit Go.Proofs.Ytohgjbkiemnfnaa.X Go.Proofs.Ytohgjbkiemnfnaa.Hlp Go.Proofs.YtohgjbkiemnfnaaW.PrintWords Go.Proofs.YtohgjbkiemnfnaaW.PrintLast Go.Proofs.YtohgjbkiemnfnaaW.PrintMore Go.Proofs.Ytohgjbkiemnfnaa.Aid
attribute [local go_sem] max2_int min2_int max_two min_two
set_option linter.unusedVariables false
set_option linter.unusedSimpArgs false
theorem own_of_Rb {w : World} {base : Nat} {ok : Nat → Prop} {v : Value} {l : List Bool} (h : Kd.R Kd.bool 4 w base ok v l) : w.ownsRow base 4 1 v l.length (bools l) := by
  obtain ⟨h0, inner, ho, hr⟩ := h
  obtain rfl := Kd.reps_encs hr
  exact ho
theorem outL_le {l ch : List Int} (hn : ∀ n ∈ l, 0 ≤ n ∧ n ≤ 16777216) (ht : tot l ≤ 16777216) : (outL l ch).length ≤ 16777216 := by
  unfold outL
  split
  · have := tr_len (ch := ch) (fun n h => (hn n h).1) l.length (Nat.le_refl _)
    rw [List.take_length] at this
    omega
  · simp

set_option maxHeartbeats 8000000 in
set_option maxRecDepth 100000 in
theorem law_calls (A0 : Option Addr) (c0 : Nat) (l : List Int) (A1 : Option Addr) (c1 : Nat) (ch : List Int) (w : World) (hr0 : Kd.C (Kd.int .i64) w A0 l.length l) (hc0 : l.length ≤ c0) (hr1 : Kd.C (Kd.int .i64) w A1 ch.length ch) (hc1 : ch.length ≤ c1) :
    Calls Try.prog 5 #[.slice A0 l.length c0, .slice A1 ch.length c1] w fun e w' => e = .returned (.bool true) ∧ Below w.heap.size w w' := by
  obtain ⟨ks, bs, hks, hbs⟩ := small_ev l
  obtain ⟨kg, bg, hkg, hbg⟩ := good_ev l
  have hsm : ∀ W, Below w.heap.size w W → Calls Try.prog 15 #[.slice A0 l.length c0] W fun e w' => e = .returned (.bool bs) ∧ Drawn0 W w' := fun W hB => ferrulelaw13_small.calls ks A0 c0 l bs W (Kd.C_below hr0 hB) hc0 hks
  have hgd : ∀ W, Below w.heap.size w W → Calls Try.prog 17 #[.slice A0 l.length c0] W fun e w' => e = .returned (.bool bg) ∧ Drawn0 W w' := fun W hB => ferruleref13_Good.calls kg A0 c0 l bg W (Kd.C_below hr0 hB) hc0 hkg
  by_cases hbs1 : bs = true
  case neg =>
    simp only [Bool.not_eq_true] at hbs1
    subst hbs1
    go_enter Try.func5, Try.ntmps5
    go_wp2_with (first
      | (go_at_call 14; with_reducible refine (awake_calls _).mono ?_; rintro e w1 ⟨rfl, hB1⟩)
      | (go_at_call 15; with_reducible refine (hsm _ hB1).mono ?_; rintro e w2 ⟨rfl, hD2⟩; have hB2 := hB1.trans (hD2.below.mono hB1.size)))
    go_ret
    exact ⟨rfl, hB2⟩
  subst hbs1
  by_cases hbg1 : bg = true
  case neg =>
    simp only [Bool.not_eq_true] at hbg1
    subst hbg1
    go_enter Try.func5, Try.ntmps5
    go_wp2_with (first
      | (go_at_call 14; with_reducible refine (awake_calls _).mono ?_; rintro e w1 ⟨rfl, hB1⟩)
      | (go_at_call 15; with_reducible refine (hsm _ hB1).mono ?_; rintro e w2 ⟨rfl, hD2⟩; have hB2 := hB1.trans (hD2.below.mono hB1.size))
      | (go_at_call 17; with_reducible refine (hgd _ hB2).mono ?_; rintro e w3 ⟨rfl, hD3⟩; have hB3 := hB2.trans (hD3.below.mono hB2.size)))
    go_ret
    exact ⟨rfl, hB3⟩
  subst hbg1
  obtain ⟨hl4, hng, htg⟩ := hbg rfl
  by_cases hch : 8 < ch.length
  · have hchI : (8 : Int) < (ch.length : Int) := by omega
    go_enter Try.func5, Try.ntmps5
    go_wp2_with (first
      | (go_at_call 14; with_reducible refine (awake_calls _).mono ?_; rintro e w1 ⟨rfl, hB1⟩)
      | (go_at_call 15; with_reducible refine (hsm _ hB1).mono ?_; rintro e w2 ⟨rfl, hD2⟩; have hB2 := hB1.trans (hD2.below.mono hB1.size))
      | (go_at_call 17; with_reducible refine (hgd _ hB2).mono ?_; rintro e w3 ⟨rfl, hD3⟩; have hB3 := hB2.trans (hD3.below.mono hB2.size)))
    go_ret
    exact ⟨rfl, hB3⟩
  have hchI : ¬ (8 : Int) < (ch.length : Int) := by omega
  have hmk : ∀ W, Below w.heap.size w W → Calls Try.prog 16 #[.slice A0 l.length c0] W _ := fun W hB => made A0 c0 l W (Kd.C_below hr0 hB) hc0 hl4 hng htg
  obtain ⟨kt, hkt⟩ := truths_ev hl4 hng htg ch
  have hout_le := outL_le (ch := ch) hng htg
  obtain ⟨kq, hkq⟩ := same_ev (outL l ch) (by omega)
  have htc : ∀ W base g, AT W base g l → Below w.heap.size w W → Calls Try.prog 25 #[.pointer (some ⟨g, 0, none⟩), .slice A1 ch.length c1] W _ := fun W base g hT hB => truths_calls hT A1 c1 ch (Kd.C_below hr1 hB) hc1 hl4 hng htg
  have hrt : ∀ W, Below w.heap.size w W → Calls Try.prog 26 #[.slice A0 l.length c0, .slice A1 ch.length c1] W _ := fun W hB => ferruleref13_Truths.calls kt A0 c0 l A1 c1 ch (outL l ch) W (Kd.C_below hr0 hB) hc0 (Kd.C_below hr1 hB) hc1 hkt
  have hval : (outL l ch).length ≠ 0 → (ch.length = l.length ∧ ∀ p, p < l.length → okc l ch p) ∧ outL l ch = tr l ch l.length := by
    intro h
    have : ch.length = l.length ∧ ∀ p, p < l.length → okc l ch p := by
      refine Classical.byContradiction fun h2 => h ?_
      unfold outL
      rw [if_neg h2]; rfl
    exact ⟨this, by unfold outL; exact if_pos this⟩
  generalize outL l ch = T at *
  have hb0 : ¬ (l.length : Int) = 0 → ((l.length : Int) == 0) = false := fun h => beq_eq_false_iff_ne.mpr h
  have hsame : ∀ W A c A' c', Kd.bool.C W A T.length T → T.length ≤ c → Kd.bool.C W A' T.length T → T.length ≤ c' → Calls Try.prog 27 #[.slice A T.length c, .slice A' T.length c'] W _ := fun W A c A' c' h1 h2 h3 h4 => ferruleref13_Same.calls kq A c T A' c' T true W h1 h2 h3 h4 hkq
  by_cases hz : l.length = 0 ∨ T.length = 0
  · have hz1 : ((l.length : Int) == 0) = true ∨ ((T.length : Int) == 0) = true := by rcases hz with h | h <;> simp [h]
    clear hz1 hval
    by_cases hlz : l.length = 0
    · have hlzI : ((l.length : Int) == 0) = true := by simp [hlz]
      clear hz hlz
      go_enter Try.func5, Try.ntmps5
      go_wp2_with (first
        | (go_at_call 14; with_reducible refine (awake_calls _).mono ?_; rintro e w1 ⟨rfl, hB1⟩)
        | (go_at_call 15; with_reducible refine (hsm _ hB1).mono ?_; rintro e w2 ⟨rfl, hD2⟩; have hB2 := hB1.trans (hD2.below.mono hB1.size))
        | (go_at_call 17; with_reducible refine (hgd _ hB2).mono ?_; rintro e w3 ⟨rfl, hD3⟩; have hB3 := hB2.trans (hD3.below.mono hB2.size))
        | (go_at_call 16; with_reducible refine (hmk _ hB3).mono ?_; rintro e w4 ⟨g, rfl, hT, hB4⟩; have hB4' := hB3.trans (hB4.mono hB3.size))
        | (go_at_call 25; with_reducible refine (htc _ _ _ hT hB4').mono ?_; rintro e w5 ⟨v, rfl, hv, hB5⟩; have hB5' := hB4'.trans (hB5.mono hB4'.size); obtain ⟨pv, cv, rfl, hcv, hCv⟩ := C_of_bools hv)
        | (go_at_call 26; with_reducible refine (hrt _ hB5').mono ?_; rintro e w6 ⟨v6, rfl, hR6, hB6⟩; have hB6' := hB5'.trans (hB6.mono hB5'.size); obtain ⟨p6, c6, rfl, hc6, hC6⟩ := C_of_bools (own_of_Rb hR6); have hCv6 := Kd.C_below hCv hB6)
        | (go_at_call 27; with_reducible refine (hsame _ _ _ _ _ hCv6 hcv hC6 hc6).mono ?_; rintro e w7 ⟨rfl, hD7⟩; have hB7' := hB6'.trans (hD7.below.mono hB6'.size)))
      go_ret
      exact ⟨rfl, hB7'⟩
    · have hlzI : ((l.length : Int) == 0) = false := hb0 (by omega)
      have hTzI : ((T.length : Int) == 0) = true := by rcases hz with h | h; (exact absurd h hlz); simp [h]
      clear hz hlz
      go_enter Try.func5, Try.ntmps5
      go_wp2_with (first
        | (go_at_call 14; with_reducible refine (awake_calls _).mono ?_; rintro e w1 ⟨rfl, hB1⟩)
        | (go_at_call 15; with_reducible refine (hsm _ hB1).mono ?_; rintro e w2 ⟨rfl, hD2⟩; have hB2 := hB1.trans (hD2.below.mono hB1.size))
        | (go_at_call 17; with_reducible refine (hgd _ hB2).mono ?_; rintro e w3 ⟨rfl, hD3⟩; have hB3 := hB2.trans (hD3.below.mono hB2.size))
        | (go_at_call 16; with_reducible refine (hmk _ hB3).mono ?_; rintro e w4 ⟨g, rfl, hT, hB4⟩; have hB4' := hB3.trans (hB4.mono hB3.size))
        | (go_at_call 25; with_reducible refine (htc _ _ _ hT hB4').mono ?_; rintro e w5 ⟨v, rfl, hv, hB5⟩; have hB5' := hB4'.trans (hB5.mono hB4'.size); obtain ⟨pv, cv, rfl, hcv, hCv⟩ := C_of_bools hv)
        | (go_at_call 26; with_reducible refine (hrt _ hB5').mono ?_; rintro e w6 ⟨v6, rfl, hR6, hB6⟩; have hB6' := hB5'.trans (hB6.mono hB5'.size); obtain ⟨p6, c6, rfl, hc6, hC6⟩ := C_of_bools (own_of_Rb hR6); have hCv6 := Kd.C_below hCv hB6)
        | (go_at_call 27; with_reducible refine (hsame _ _ _ _ _ hCv6 hcv hC6 hc6).mono ?_; rintro e w7 ⟨rfl, hD7⟩; have hB7' := hB6'.trans (hD7.below.mono hB6'.size)))
      go_ret
      exact ⟨rfl, hB7'⟩
  · have hlzI : ((l.length : Int) == 0) = false := hb0 (by omega)
    have hTzI : ((T.length : Int) == 0) = false := beq_eq_false_iff_ne.mpr (by omega)
    obtain ⟨⟨hcl, hok⟩, heq⟩ := hval (by omega)
    have hcc : ∀ W base g ra ca ba, AT W base g l → W.ownsRow ba 4 1 (.slice (some ⟨ra, 0, none⟩) T.length ca) T.length (bools T) → Calls Try.prog 28 #[.pointer (some ⟨g, 0, none⟩), .slice (some ⟨ra, 0, none⟩) T.length ca] W _ := fun W base g ra ca ba hT ha => choice_calls hT ra ca ba ch T heq hcl hok ha hl4 hng htg
    have hlI : ((ch.length : Int) != (ch.length : Int)) = false := by simp
    have hTp : 0 < T.length := by omega
    clear hcl heq hval hz
    go_enter Try.func5, Try.ntmps5
    go_wp2_with (first
      | (go_at_call 14; with_reducible refine (awake_calls _).mono ?_; rintro e w1 ⟨rfl, hB1⟩)
      | (go_at_call 15; with_reducible refine (hsm _ hB1).mono ?_; rintro e w2 ⟨rfl, hD2⟩; have hB2 := hB1.trans (hD2.below.mono hB1.size))
      | (go_at_call 17; with_reducible refine (hgd _ hB2).mono ?_; rintro e w3 ⟨rfl, hD3⟩; have hB3 := hB2.trans (hD3.below.mono hB2.size))
      | (go_at_call 16; with_reducible refine (hmk _ hB3).mono ?_; rintro e w4 ⟨g, rfl, hT, hB4⟩; have hB4' := hB3.trans (hB4.mono hB3.size))
      | (go_at_call 25; with_reducible refine (htc _ _ _ hT hB4').mono ?_; rintro e w5 ⟨v, rfl, hv, hB5⟩; have hB5' := hB4'.trans (hB5.mono hB4'.size); obtain ⟨pv, cv, rfl, hcv, hCv⟩ := C_of_bools hv; obtain ⟨ra, rfl⟩ := addr_of hv hTp; have hT5 := hT.below hB5)
      | (go_at_call 26; with_reducible refine (hrt _ hB5').mono ?_; rintro e w6 ⟨v6, rfl, hR6, hB6⟩; have hB6' := hB5'.trans (hB6.mono hB5'.size); obtain ⟨p6, c6, rfl, hc6, hC6⟩ := C_of_bools (own_of_Rb hR6); have hCv6 := Kd.C_below hCv hB6; have hT6 := hT5.below hB6; have hv6 := Hlp.own_below hv hB6)
      | (go_at_call 27; with_reducible refine (hsame _ _ _ _ _ hCv6 hcv hC6 hc6).mono ?_; rintro e w7 ⟨rfl, hD7⟩; have hB7' := hB6'.trans (hD7.below.mono hB6'.size); have hT7 := hT6.below hD7.below; have hv7 := Hlp.own_below hv6 hD7.below)
      | (go_at_call 28; with_reducible refine (hcc _ _ _ _ _ _ hT7 hv7).mono ?_; rintro e w8 ⟨v8, rfl, hv8, hB8⟩; have hB8' := hB7'.trans (hB8.mono hB7'.size); obtain ⟨p8, c8, rfl⟩ := Hlp.own_slice hv8))
    go_loopw [10] (fun i wr => ∃ q : Nat, q ≤ ch.length ∧ i = .int .i64 q ∧ ∃ m, wr = w8.drewN m) (fun i _ => ch.length - (intOf i).toNat)
    case atStart => exact ⟨0, Nat.zero_le _, rfl, 0, rfl⟩
    case round =>
      obtain ⟨q, hq, rfl, m, rfl⟩ := hrel
      by_cases hq1 : q < ch.length
      · have hqI : (q : Int) < (ch.length : Int) := by omega
        obtain ⟨ad, rfl, hcell⟩ := Kd.at_int (Kd.C_below hr1 hB8') (q : Int) (by omega) hqI
        rw [Int.toNat_natCast, show rd ch (q : Int) = ch[q] from by simp [rd, hq1]] at hcell
        obtain ⟨r8, rfl⟩ := addr_of hv8 (by omega)
        have hcg := row_cell hv8 q (.int .i64 ch[q]) (by simp [ints, hq1])
        generalize ch[q] = z at hcg hcell
        go_wp2_with fail
        go_quiet (fail)
        go_wp2
        exact ⟨⟨q + 1, by omega, rfl, _, rfl⟩, by simp [intOf]; omega⟩
      · have hqI : ¬ (q : Int) < (ch.length : Int) := by omega
        go_wp2
        go_ret
        exact ⟨rfl, pw_below_drewN hB8' m⟩
end Go.Proofs.Ytohgjbkiemnfnaa.Ato
