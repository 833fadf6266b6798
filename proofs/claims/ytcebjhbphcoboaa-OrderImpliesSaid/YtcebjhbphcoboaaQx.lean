/- OrderImplies: the law's walk: what is implied, and why, is what the document says. -/
import Derived.Test.YtcebjhbphcoboaaQw
namespace Go.Proofs.Ytcebjhbphcoboaa.Ato
open Go Go.RowKit Go.Proofs.Ytcebjhbphcoboaa.X Go.Proofs.Ytcebjhbphcoboaa.Hlp Go.Proofs.YtcebjhbphcoboaaW.PrintWords Go.Proofs.YtcebjhbphcoboaaW.PrintLast Go.Proofs.YtcebjhbphcoboaaW.PrintMore Go.Proofs.Ytcebjhbphcoboaa.Aid Go.Proofs.Ytcebjhbphcoboaa.Clean12
attribute [local go_sem] max2_int min2_int max_two min_two
set_option linter.unusedVariables false
set_option linter.unusedSimpArgs false
theorem negL_len (L : List Int) : (negL L).length ≤ L.length := by
  unfold negL Clause12.cleanP
  split
  · exact Nat.zero_le _
  · have := Clause12.clean_len (L.map fun x => -x)
    rw [List.length_map] at this
    exact this
theorem explainP_len (l L : List Int) (x : Int) : (explainP l L x).1.length ≤ L.length + 1 := by
  unfold explainP
  split
  · exact Nat.zero_le _
  · split
    · refine Nat.le_trans (negL_len _) (Nat.le_trans (expl_len l _ 1 _ _ 0) ?_)
      unfold exM
      rw [List.length_append, List.length_singleton]
      have := ofL_len l (litA l x).f1 L
      omega
    · exact Nat.zero_le _
set_option maxHeartbeats 4000000 in
set_option maxRecDepth 100000 in
theorem lawI_calls (A0 : Option Addr) (c0 : Nat) (l : List Int) (A1 : Option Addr) (c1 : Nat) (lits : List Int) (p lit : Int) (w : World) (hr0 : Kd.C (Kd.int .i64) w A0 l.length l) (hc0 : l.length ≤ c0) (hr1 : Kd.C (Kd.int .i64) w A1 lits.length lits) (hc1 : lits.length ≤ c1) (hx : ∀ x ∈ lits, -9223372036854775808 ≤ x ∧ x ≤ 9223372036854775807) (hlit : -9223372036854775808 ≤ lit ∧ lit ≤ 9223372036854775807) :
    Calls Try.prog 11 #[.slice A0 l.length c0, .slice A1 lits.length c1, .int .i64 p, .int .i64 lit] w fun e w' => e = .returned (.bool true) ∧ Below w.heap.size w w' := by
  obtain ⟨ks, bs, hks, hbs⟩ := small15_ev l
  have hsm : ∀ W, Below w.heap.size w W → Calls Try.prog 34 #[.slice A0 l.length c0] W _ := fun W hB => ferrulelaw15_small.calls ks A0 c0 l bs W (Kd.C_below hr0 hB) hc0 hks
  by_cases hbs1 : bs = true
  case neg =>
    simp only [Bool.not_eq_true] at hbs1
    subst hbs1
    go_enter Try.func11, Try.ntmps11
    go_wp2_with (first
      | (go_at_call 33; with_reducible refine (awake15_calls _).mono ?_; rintro e w1 ⟨rfl, hB1⟩)
      | (go_at_call 34; with_reducible refine (hsm _ hB1).mono ?_; rintro e w2 ⟨rfl, hD2⟩; have hB2 := hB1.trans (hD2.below.mono hB1.size)))
    go_ret
    exact ⟨rfl, hB2⟩
  subst hbs1
  obtain ⟨hs, hl4⟩ := hbs rfl
  by_cases hlits : 20 < lits.length
  · have hI : (20 : Int) < (lits.length : Int) := by omega
    go_enter Try.func11, Try.ntmps11
    go_wp2_with (first
      | (go_at_call 33; with_reducible refine (awake15_calls _).mono ?_; rintro e w1 ⟨rfl, hB1⟩)
      | (go_at_call 34; with_reducible refine (hsm _ hB1).mono ?_; rintro e w2 ⟨rfl, hD2⟩; have hB2 := hB1.trans (hD2.below.mono hB1.size)))
    go_ret
    exact ⟨rfl, hB2⟩
  have hI : ¬ (20 : Int) < (lits.length : Int) := by omega
  have hfi := fun W (hB : Below w.heap.size w W) => filled_calls A0 c0 l A1 c1 lits W (Kd.C_below hr0 hB) hc0 (Kd.C_below hr1 hB) hc1 hs (by omega) hx
  have hag := fillL_agree l lits [] (agree_nil l)
  have hXl := fillL_len l lits []
  have hXl2 : (fillL l [] lits).length ≤ 20 := by simp at hXl; omega
  have hin := agree_in hs.2.2 hag
  have hm := hag.1
  clear hag hXl
  generalize fillL l [] lits = X at *
  obtain ⟨ke, hke⟩ := (refExplain_ev hs X (by omega) hm lit).rounds
  obtain ⟨ki, hki⟩ := (refImplied_ev hs X (by omega) hm p).rounds
  have hle := explainP_len l X lit
  have hli := impK_len l (ofL l p X) p (tot l).toNat
  have hlt : tot l ≤ 16777216 := hs.2.2
  obtain ⟨kt, hkt⟩ := (same_ev (explainP l X lit).1 (by omega)).rounds
  obtain ⟨ku, hku⟩ := (same_ev (impL l X p) (by unfold impL; omega)).rounds
  have hex : ∀ {W0 b0 g W base gs lv}, SO W0 b0 g l W base gs lv X → Calls Try.prog 49 #[.pointer (some ⟨gs, 0, none⟩), .int .i64 lit] W _ := fun h => explain_calls h lit hlit hs (by omega) hin
  have him : ∀ {W0 b0 g W base gs lv}, SO W0 b0 g l W base gs lv X → Calls Try.prog 51 #[.pointer (some ⟨gs, 0, none⟩), .int .i64 p] W _ := fun h => impl_calls h p hs (by omega) hin
  have hrE := fun W Ax cx (hB : Below w.heap.size w W) (hC : Kd.C (Kd.int .i64) W Ax X.length X) (hc : X.length ≤ cx) => ferruleref15_Explain.calls ke A0 c0 l Ax cx X lit (explainP l X lit).1 (explainP l X lit).2 W (Kd.C_below hr0 hB) hc0 hC hc hke
  have hrI := fun W Ax cx (hB : Below w.heap.size w W) (hC : Kd.C (Kd.int .i64) W Ax X.length X) (hc : X.length ≤ cx) => ferruleref15_Implied.calls ki A0 c0 l Ax cx X p (impL l X p) W (Kd.C_below hr0 hB) hc0 hC hc hki
  have hsE := fun W A2 c2 A3 c3 (hC2 : Kd.C (Kd.int .i64) W A2 (explainP l X lit).1.length (explainP l X lit).1) (hc2 : (explainP l X lit).1.length ≤ c2) (hC3 : Kd.C (Kd.int .i64) W A3 (explainP l X lit).1.length (explainP l X lit).1) (hc3 : (explainP l X lit).1.length ≤ c3) => ferruleref12_Same.calls kt A2 c2 _ A3 c3 _ true W hC2 hc2 hC3 hc3 hkt
  have hsI := fun W A2 c2 A3 c3 (hC2 : Kd.C (Kd.int .i64) W A2 (impL l X p).length (impL l X p)) (hc2 : (impL l X p).length ≤ c2) (hC3 : Kd.C (Kd.int .i64) W A3 (impL l X p).length (impL l X p)) (hc3 : (impL l X p).length ≤ c3) => ferruleref12_Same.calls ku A2 c2 _ A3 c3 _ true W hC2 hc2 hC3 hc3 hku
  clear hke hki hkt hku hle hli
  generalize (explainP l X lit).1 = E at *
  generalize (explainP l X lit).2 = B at *
  generalize impL l X p = I at *
  go_enter Try.func11, Try.ntmps11
  go_wp2_with (first
    | (go_at_call 33; with_reducible refine (awake15_calls _).mono ?_; rintro e w1 ⟨rfl, hB1⟩)
    | (go_at_call 34; with_reducible refine (hsm _ hB1).mono ?_; rintro e w2 ⟨rfl, hD2⟩; have hB2 := hB1.trans (hD2.below.mono hB1.size))
    | (go_at_call 35; with_reducible refine (hfi _ hB2).mono ?_; rintro e w3 ⟨W0, b0, g, base, gs, lv, vx, rfl, hbase, hS3, hX3, hB3⟩; have hBw3 := hB2.trans (hB3.mono hB2.size); obtain ⟨Ax, cx, ex, hcx, hCx⟩ := C_of_ints hX3; subst ex)
    | (go_at_call 49; with_reducible refine (hex hS3).mono ?_; rintro e w4 ⟨v4, rfl, hown4, hB4⟩; have hBw4 := hBw3.trans (hB4.mono hBw3.size); obtain ⟨A4, c4, e4, hc4, hC4⟩ := C_of_ints hown4; subst e4; have hS4 := hS3.below hB4; have hCx4 := Kd.C_below hCx hB4)
    | (go_at_call 50; with_reducible refine (hrE _ _ _ hBw4 hCx4 hcx).mono ?_; rintro e w5 ⟨v5, rfl, hR5, hB5⟩; have hBw5 := hBw4.trans (hB5.mono hBw4.size); obtain ⟨A5, c5, e5, hc5, hC5⟩ := C_of_ints (own_of_R hR5); subst e5; have hS5 := hS4.below hB5; have hCx5 := Kd.C_below hCx4 hB5; have hC45 := Kd.C_below hC4 hB5)
    | (go_at_call 51; with_reducible refine (him hS5).mono ?_; rintro e w6 ⟨v6, rfl, hown6, hB6⟩; have hBw6 := hBw5.trans (hB6.mono hBw5.size); obtain ⟨A6, c6, e6, hc6, hC6⟩ := C_of_ints hown6; subst e6; have hCx6 := Kd.C_below hCx5 hB6; have hC46 := Kd.C_below hC45 hB6; have hC56 := Kd.C_below hC5 hB6)
    | (go_at_call 52; with_reducible refine (hrI _ _ _ hBw6 hCx6 hcx).mono ?_; rintro e w7 ⟨v7, rfl, hR7, hB7⟩; have hBw7 := hBw6.trans (hB7.mono hBw6.size); obtain ⟨A7, c7, e7, hc7, hC7⟩ := C_of_ints (own_of_R hR7); subst e7; have hC67 := Kd.C_below hC6 hB7; have hC47 := Kd.C_below hC46 hB7; have hC57 := Kd.C_below hC56 hB7; have hsI7 := hsI _ _ _ _ _ hC67 hc6 hC7 hc7)
    | (go_at_call 44; with_reducible refine hsI7.mono ?_; rintro e w8 ⟨rfl, hD8⟩; have hB8 := hD8.below; have hBw8 := hBw7.trans (hB8.mono hBw7.size); have hsE8 := hsE _ _ _ _ _ (Kd.C_below hC47 hB8) hc4 (Kd.C_below hC57 hB8) hc5)
    | (go_at_call 44; with_reducible refine hsE8.mono ?_; rintro e w9 ⟨rfl, hD9⟩; have hBw9 := hBw8.trans (hD9.below.mono hBw8.size)))
  go_ret
  exact ⟨rfl, hBw9⟩
end Go.Proofs.Ytcebjhbphcoboaa.Ato
