/- Which tables there are, the variable of any atom, and the atom of any variable (ferrulelaw13.AtomsVars): the walk of the law, by hand over the table's contracts. -/
import Derived.Test.YtohgjbkiemnfnaaAtb
import Derived.Test.YtohgjbkiemnfnaaAtx
import Derived.Test.YtohgjbkiemnfnaaAtz
import Derived.Test.YtohgjbkiemnfnaaGrw
namespace Go.Proofs.Ytohgjbkiemnfnaa.Ato
open Go Go.RowKit Go.Proofs.Ytohgjbkiemnfnaa.X Go.Proofs.Ytohgjbkiemnfnaa.Hlp Go.Proofs.YtohgjbkiemnfnaaW.PrintWords Go.Proofs.YtohgjbkiemnfnaaW.PrintLast Go.Proofs.YtohgjbkiemnfnaaW.PrintMore Go.Proofs.Ytohgjbkiemnfnaa.Aid
attribute [local go_sem] max2_int min2_int max_two min_two
attribute [local go_sem high] eqA24
set_option linter.unusedVariables false
set_option linter.unusedSimpArgs false
theorem notmade (A : Option Addr) (c : Nat) (l : List Int) (w : World) (hr : Kd.C (Kd.int .i64) w A l.length l) (hc : l.length ≤ c) (hl : l.length ≤ 4096) (j : Nat) (hj : j < l.length) (hn : ∀ n ∈ l.take j, 0 ≤ n ∧ n ≤ 16777216) (hbad : l[j] < 0 ∨ 16777216 < l[j]) (ht : tot (l.take j) ≤ 16777216) :
    Calls Try.prog 16 #[.slice A l.length c] w fun e w' => e = .returned (.pointer none) ∧ Below w.heap.size w w' := by
  refine newbad_calls A c l w hr hc hl j hj hn hbad ht ((slices_Clone_int_int.calls A c l l w hr hc ?_).mono fun e w' ⟨v, he, hR, hB⟩ => ⟨v, he, own_of_R hR, hB⟩)
  unfold slices_Clone_int_int.f
  rw [if_pos (by omega)]
/-- What stands in a row of atoms. -/
theorem atom_cells {w : World} {base : Nat} {v0 : Value} {xs : List S24} (h : Kd.R k24 24 w base (fun _ => True) v0 xs) (i : Nat) (a : S24) (hi : xs[i]? = some a) :
    ∃ ad c, v0 = .slice (some ad) xs.length c ∧ w.cell? (ad.add (i * 3)) = some (.int .i64 a.f0) ∧ w.cell? ⟨(ad.add (i * 3)).block, (ad.add (i * 3)).off + 1, none⟩ = some (.int .i64 a.f1) ∧ w.cell? ⟨(ad.add (i * 3)).block, (ad.add (i * 3)).off + 2, none⟩ = some (.int .i64 a.f2) := by
  have hlt := (List.getElem?_eq_some_iff.mp hi).1
  obtain ⟨Ao, co, rfl⟩ := Kd.R_slice h
  obtain ⟨ad, rfl, h0, h1, h2⟩ := at_T24 (Kd.R_reads' h).2.2 (i : Int) (by omega) (by omega)
  rw [show rd_T24 xs (i : Int) = a from by unfold rd_T24; simp [List.getD, hi]] at h0 h1 h2
  exact ⟨ad, co, rfl, h0, h1, h2⟩
set_option maxHeartbeats 1000000 in
set_option maxRecDepth 100000 in
theorem law0_calls (A0 : Option Addr) (c0 : Nat) (l : List Int) (a : S24) (v : Int) (w : World) (hr0 : Kd.C (Kd.int .i64) w A0 l.length l) (hc0 : l.length ≤ c0) :
    Calls Try.prog 3 #[.slice A0 l.length c0, .agg #[.int .i64 a.f0, .int .i64 a.f1, .int .i64 a.f2], .int .i64 v] w fun e w' => e = .returned (.bool true) ∧ Below w.heap.size w w' := by
  have hBa : Below w.heap.size w (w.alloc (.cells #[.int .i64 a.f0, .int .i64 a.f1, .int .i64 a.f2] 24)) := (Below.refl _ _).alloc (Nat.le_refl _) _
  have hbw0 := blk_new w (.cells #[.int .i64 a.f0, .int .i64 a.f1, .int .i64 a.f2] 24)
  obtain ⟨ks, bs, hks, hbs⟩ := small_ev l
  have hsm : ∀ W, Below w.heap.size w W → Calls Try.prog 15 #[.slice A0 l.length c0] W _ := fun W hB => ferrulelaw13_small.calls ks A0 c0 l bs W (Kd.C_below hr0 hB) hc0 hks
  by_cases hbs1 : bs = true
  case neg =>
    simp only [Bool.not_eq_true] at hbs1
    subst hbs1
    go_enter Try.func3, Try.ntmps3
    go_wp2_with (first
      | (go_at_call 14; with_reducible refine (awake_calls _).mono ?_; rintro e w1 ⟨rfl, hB1'⟩; have hB1 := hBa.trans (hB1'.mono hBa.size); have hbw1 := blk_below hbw0 hB1')
      | (go_at_call 15; with_reducible refine (hsm _ hB1).mono ?_; rintro e w2 ⟨rfl, hD2⟩; have hB2 := hB1.trans (hD2.below.mono hB1.size); have hbw2 := blk_below hbw1 hD2.below))
    go_ret
    exact ⟨rfl, hB2⟩
  subst hbs1
  obtain ⟨hl6, hs6⟩ := hbs rfl
  have hl4 : l.length ≤ 4096 := by omega
  rcases good_or l hl6 hs6 with ⟨⟨kg, hkg⟩, hng, htg⟩ | ⟨⟨kg, hkg⟩, j, hj, hnj, hbj, htj⟩
  case inr =>
    have hgd : ∀ W, Below w.heap.size w W → Calls Try.prog 17 #[.slice A0 l.length c0] W _ := fun W hB => ferruleref13_Good.calls kg A0 c0 l false W (Kd.C_below hr0 hB) hc0 hkg
    have hmk : ∀ W, Below w.heap.size w W → Calls Try.prog 16 #[.slice A0 l.length c0] W _ := fun W hB => notmade A0 c0 l W (Kd.C_below hr0 hB) hc0 hl4 j hj hnj hbj htj
    clear hkg hnj hbj htj hs6 hks hbs
    go_enter Try.func3, Try.ntmps3
    go_wp2_with (first
      | (go_at_call 14; with_reducible refine (awake_calls _).mono ?_; rintro e w1 ⟨rfl, hB1'⟩; have hB1 := hBa.trans (hB1'.mono hBa.size); have hbw1 := blk_below hbw0 hB1')
      | (go_at_call 15; with_reducible refine (hsm _ hB1).mono ?_; rintro e w2 ⟨rfl, hD2⟩; have hB2 := hB1.trans (hD2.below.mono hB1.size); have hbw2 := blk_below hbw1 hD2.below)
      | (go_at_call 16; with_reducible refine (hmk _ hB2).mono ?_; rintro e w3 ⟨rfl, hB3⟩; have hB3' := hB2.trans (hB3.mono hB2.size))
      | (go_at_call 17; with_reducible refine (hgd _ hB3').mono ?_; rintro e w4 ⟨rfl, hD4⟩; have hB4' := hB3'.trans (hD4.below.mono hB3'.size)))
    go_ret
    exact ⟨rfl, hB4'⟩
  have hgd : ∀ W, Below w.heap.size w W → Calls Try.prog 17 #[.slice A0 l.length c0] W _ := fun W hB => ferruleref13_Good.calls kg A0 c0 l true W (Kd.C_below hr0 hB) hc0 hkg
  have hmk : ∀ W, Below w.heap.size w W → Calls Try.prog 16 #[.slice A0 l.length c0] W _ := fun W hB => made A0 c0 l W (Kd.C_below hr0 hB) hc0 hl4 hng htg
  have hn0 : ∀ n ∈ l, 0 ≤ n := fun n h => (hng n h).1
  obtain ⟨ka, hka⟩ := (all_ev hl4 hng htg).rounds
  have hall : ∀ W, Below w.heap.size w W → Calls Try.prog 18 #[.slice A0 l.length c0] W _ := fun W hB => ferruleref13_All.calls ka A0 c0 l (allA l l.length) W (Kd.C_below hr0 hB) hc0 hka
  obtain ⟨kv, hkv⟩ := refvar_ev hl4 hng htg a
  have hrv : ∀ W, Below w.heap.size w W → Calls Try.prog 23 #[.slice A0 l.length c0, .agg #[.int .i64 a.f0, .int .i64 a.f1, .int .i64 a.f2]] W _ := fun W hB => ferruleref13_Var.calls kv A0 c0 l a.f0 a.f1 a.f2 (varP l a) W (Kd.C_below hr0 hB) hc0 hkv
  have hvars : ∀ W base g, AT W base g l → Calls Try.prog 20 #[.pointer (some ⟨g, 0, none⟩)] W _ := fun W base g hT => vars_calls hT
  have hpacks : ∀ W base g, AT W base g l → Calls Try.prog 21 #[.pointer (some ⟨g, 0, none⟩)] W _ := fun W base g hT => packs_calls hT
  have hvar : ∀ b : S24, ∀ W base g, AT W base g l → Calls Try.prog 22 #[.pointer (some ⟨g, 0, none⟩), .agg #[.int .i64 b.f0, .int .i64 b.f1, .int .i64 b.f2]] W _ := fun b W base g hT => var_calls hT b hng htg
  have hva := hvar a
  have hsize : ∀ W base g, AT W base g l → Calls Try.prog 24 #[.pointer (some ⟨g, 0, none⟩), .int .i64 a.f1] W _ := fun W base g hT => size_calls hT a.f1
  have hlen := allA_len hn0 l.length (Nat.le_refl _)
  rw [List.take_length] at hlen
  have hat : ∀ b, atomP l v b → (allA l l.length)[(v - 1).toNat]? = some b ∧ varP l b = v := by
    rintro b ⟨p, hp, h1, h2, rfl⟩
    have h3 := at_var hn0 p hp v h1 h2
    have h4 := var_at hn0 _ _ h3
    have h5 := beg_pos hn0 p
    exact ⟨h3, by omega⟩
  have hnone : (v < 1 ∨ tot l < v) → ∀ W base g, AT W base g l → Calls Try.prog 19 #[.pointer (some ⟨g, 0, none⟩), .int .i64 v] W _ := fun h W base g hT => atom_none hT v h
  have hsome : 1 ≤ v → v ≤ tot l → ∀ W base g, AT W base g l → Calls Try.prog 19 #[.pointer (some ⟨g, 0, none⟩), .int .i64 v] W _ := fun h1 h2 W base g hT => atom_calls hT v hl4 hng htg h1 h2
  clear hka hkv hkg hbs hs6 hks hl6
  have hsz : sizeP l a.f1 = if 0 ≤ a.f1 ∧ a.f1 < l.length then l.getD a.f1.toNat 0 else 0 := rfl
  generalize varP l a = va at *
  generalize allA l l.length = al at *
  generalize sizeP l a.f1 = sz at *
  generalize hTT : tot l = T at *
  obtain rfl : T = (al.length : Int) := hlen.symm
  clear hTT
  have hrest : True := trivial
  by_cases hv1 : v < 1
  · have hv1' : ¬ 1 ≤ v := by omega
    have hatn := hnone (.inl hv1)
    clear hnone hsome hat
    go_enter Try.func3, Try.ntmps3
    go_wp2_with (first
      | (go_at_call 14; with_reducible refine (awake_calls _).mono ?_; rintro e w1 ⟨rfl, hB1'⟩; have hB1 := hBa.trans (hB1'.mono hBa.size); have hbw1 := blk_below hbw0 hB1')
      | (go_at_call 15; with_reducible refine (hsm _ hB1).mono ?_; rintro e w2 ⟨rfl, hD2⟩; have hB2 := hB1.trans (hD2.below.mono hB1.size); have hbw2 := blk_below hbw1 hD2.below)
      | (go_at_call 16; with_reducible refine (hmk _ hB2).mono ?_; rintro e w3 ⟨g, rfl, hT, hB3⟩; have hB3' := hB2.trans (hB3.mono hB2.size); have hbw3 := blk_below hbw2 hB3)
      | (go_at_call 17; with_reducible refine (hgd _ hB3').mono ?_; rintro e w4 ⟨rfl, hD4⟩; have hB4' := hB3'.trans (hD4.below.mono hB3'.size); have hT4 := hT.below hD4.below; have hbw4 := blk_below hbw3 hD4.below)
      | (go_at_call 18; with_reducible refine (hall _ hB4').mono ?_; rintro e w5 ⟨v5, rfl, hR5, hB5⟩; have hB5' := hB4'.trans (hB5.mono hB4'.size); have hT5 := hT4.below hB5; have hbw5 := blk_below hbw4 hB5; obtain ⟨Ao, co, rfl⟩ := Kd.R_slice hR5)
      | (go_at_call 19; with_reducible refine (hatn _ _ _ hT5).mono ?_; rintro e w6 ⟨rfl, hB6⟩; have hB6' := hB5'.trans (hB6.mono hB5'.size); have hT6 := hT5.below hB6; have hbw6 := blk_below hbw5 hB6))
    have hB6a : Below w6.heap.size w6 (w6.alloc (.cells #[.int .i64 0, .int .i64 0, .int .i64 0] 24)) := (Below.refl _ _).alloc (Nat.le_refl _) _
    have hTc := hT6.below hB6a
    have hBc := hB6'.trans (hB6a.mono hB6'.size)
    have hbc := blk_below hbw6 hB6a
    have hbd := blk_new w6 (.cells #[.int .i64 0, .int .i64 0, .int .i64 0] 24)
    clear hT hT4 hT5 hT6 hB1 hB2 hB3 hB3' hB4' hB5' hB6' hbw0 hbw1 hbw2 hbw3 hbw4 hbw5 hbw6 hmk hgd hall hBa hD2 hD4 hB1' hatn hB5 hB6
    generalize (w6.alloc (.cells #[.int .i64 0, .int .i64 0, .int .i64 0] 24)) = W7 at hTc hBc hbc hbd ⊢
    have z0 := GW.cell (cell_far hbc 0 _ rfl)
    have z1 := GW.cell (cell_far hbc 1 _ rfl)
    have z2 := GW.cell (cell_far hbc 2 _ rfl)
    have hneg : ¬ 1 ≤ v := by omega
    refine wp_region_grown (by kernel_rfl) (by kernel_rfl) ?_
    repeat (first | go_big_quiet_step (first
      | (go_at_call 20; exact Hlp.Calls.grown _ ((hvars _ _ g (hTc.below (Subtype.property _))).mono fun e w' h => ⟨h.1, h.2 ▸ Below.refl _ _⟩))
      | (go_at_call 21; exact Hlp.Calls.grown _ ((hpacks _ _ g (hTc.below (Subtype.property _))).mono fun e w' h => ⟨h.1, h.2 ▸ Below.refl _ _⟩))
      | (go_at_call 22; exact Hlp.Calls.grown _ (hva _ _ g (hTc.below (Subtype.property _))))
      | (go_at_call 23; exact Hlp.Calls.grown _ ((hrv _ (GW.below hBc _))))) | quiet_step (fail))
    refine wpQuiet_nil ?_
    rintro W8 ⟨⟨W, hW8⟩, rfl⟩
    have hT8 := hTc.below hW8
    have hB8 := hBc.trans (hW8.mono hBc.size)
    have hb8 := blk_below hbc hW8
    have hd8 := blk_below hbd hW8
    have x1 := cell_far hb8 1 _ rfl
    have y0 := cell_far hd8 0 _ rfl
    have y1 := cell_far hd8 1 _ rfl
    have y2 := cell_far hd8 2 _ rfl
    clear hTc hBc hbc hbd z0 z1 z2
    go_wp2
    have u0 := GW.cell y0
    have u1 := GW.cell y1
    have u2 := GW.cell y2
    clear y0 y1 y2
    refine wp_region_grown (by kernel_rfl) (by kernel_rfl) ?_
    repeat (first | go_big_quiet_step (fail) | quiet_step (fail))
    refine wpQuiet_nil ?_
    rintro W9 ⟨⟨W, hW9⟩, rfl⟩
    have hT9 := hT8.below hW9
    have hB9 := hB8.trans (hW9.mono hB8.size)
    have x9 := cell_below x1 hW9
    clear u0 u1 u2 x1
    by_cases hp0 : a.f1 < 0
    · rw [if_neg (by omega)] at hsz
      subst hsz
      go_wp2_with (first | (go_at_call 24; with_reducible refine (hsize _ _ _ hT9).mono ?_; rintro e w10 ⟨rfl, hB10⟩))
      go_ret
      exact ⟨rfl, hB9.trans (hB10.mono hB9.size)⟩
    by_cases hp1 : (l.length : Int) ≤ a.f1
    · rw [if_neg (by omega)] at hsz
      subst hsz
      go_wp2_with (first | (go_at_call 24; with_reducible refine (hsize _ _ _ hT9).mono ?_; rintro e w10 ⟨rfl, hB10⟩))
      go_ret
      exact ⟨rfl, hB9.trans (hB10.mono hB9.size)⟩
    have hp0' : 0 ≤ a.f1 := by omega
    have hp1' : a.f1 < (l.length : Int) := by omega
    obtain ⟨ad, rfl, hcell⟩ := Kd.at_int (Kd.C_below hr0 hB9) a.f1 hp0' hp1'
    rw [if_pos ⟨hp0', hp1'⟩] at hsz
    rw [show rd l a.f1 = sz from by rw [hsz]; rfl] at hcell
    clear hsz
    go_wp2_with (first | (go_at_call 24; with_reducible refine (hsize _ _ _ hT9).mono ?_; rintro e w10 ⟨rfl, hB10⟩))
    go_ret
    exact ⟨rfl, hB9.trans (hB10.mono hB9.size)⟩
  by_cases hv2 : (al.length : Int) < v
  · have hv1' : 1 ≤ v := by omega
    have hv2' : ¬ v ≤ (al.length : Int) := by omega
    have hatn := hnone (.inr hv2)
    clear hnone hsome hat
    go_enter Try.func3, Try.ntmps3
    go_wp2_with (first
      | (go_at_call 14; with_reducible refine (awake_calls _).mono ?_; rintro e w1 ⟨rfl, hB1'⟩; have hB1 := hBa.trans (hB1'.mono hBa.size); have hbw1 := blk_below hbw0 hB1')
      | (go_at_call 15; with_reducible refine (hsm _ hB1).mono ?_; rintro e w2 ⟨rfl, hD2⟩; have hB2 := hB1.trans (hD2.below.mono hB1.size); have hbw2 := blk_below hbw1 hD2.below)
      | (go_at_call 16; with_reducible refine (hmk _ hB2).mono ?_; rintro e w3 ⟨g, rfl, hT, hB3⟩; have hB3' := hB2.trans (hB3.mono hB2.size); have hbw3 := blk_below hbw2 hB3)
      | (go_at_call 17; with_reducible refine (hgd _ hB3').mono ?_; rintro e w4 ⟨rfl, hD4⟩; have hB4' := hB3'.trans (hD4.below.mono hB3'.size); have hT4 := hT.below hD4.below; have hbw4 := blk_below hbw3 hD4.below)
      | (go_at_call 18; with_reducible refine (hall _ hB4').mono ?_; rintro e w5 ⟨v5, rfl, hR5, hB5⟩; have hB5' := hB4'.trans (hB5.mono hB4'.size); have hT5 := hT4.below hB5; have hbw5 := blk_below hbw4 hB5; obtain ⟨Ao, co, rfl⟩ := Kd.R_slice hR5)
      | (go_at_call 19; with_reducible refine (hatn _ _ _ hT5).mono ?_; rintro e w6 ⟨rfl, hB6⟩; have hB6' := hB5'.trans (hB6.mono hB5'.size); have hT6 := hT5.below hB6; have hbw6 := blk_below hbw5 hB6))
    have hB6a : Below w6.heap.size w6 (w6.alloc (.cells #[.int .i64 0, .int .i64 0, .int .i64 0] 24)) := (Below.refl _ _).alloc (Nat.le_refl _) _
    have hTc := hT6.below hB6a
    have hBc := hB6'.trans (hB6a.mono hB6'.size)
    have hbc := blk_below hbw6 hB6a
    have hbd := blk_new w6 (.cells #[.int .i64 0, .int .i64 0, .int .i64 0] 24)
    clear hT hT4 hT5 hT6 hB1 hB2 hB3 hB3' hB4' hB5' hB6' hbw0 hbw1 hbw2 hbw3 hbw4 hbw5 hbw6 hmk hgd hall hBa hD2 hD4 hB1' hatn hB5 hB6
    generalize (w6.alloc (.cells #[.int .i64 0, .int .i64 0, .int .i64 0] 24)) = W7 at hTc hBc hbc hbd ⊢
    have z0 := GW.cell (cell_far hbc 0 _ rfl)
    have z1 := GW.cell (cell_far hbc 1 _ rfl)
    have z2 := GW.cell (cell_far hbc 2 _ rfl)
    have hneg : ¬ v ≤ (al.length : Int) := by omega
    refine wp_region_grown (by kernel_rfl) (by kernel_rfl) ?_
    repeat (first | go_big_quiet_step (first
      | (go_at_call 20; exact Hlp.Calls.grown _ ((hvars _ _ g (hTc.below (Subtype.property _))).mono fun e w' h => ⟨h.1, h.2 ▸ Below.refl _ _⟩))
      | (go_at_call 21; exact Hlp.Calls.grown _ ((hpacks _ _ g (hTc.below (Subtype.property _))).mono fun e w' h => ⟨h.1, h.2 ▸ Below.refl _ _⟩))
      | (go_at_call 22; exact Hlp.Calls.grown _ (hva _ _ g (hTc.below (Subtype.property _))))
      | (go_at_call 23; exact Hlp.Calls.grown _ ((hrv _ (GW.below hBc _))))) | quiet_step (fail))
    refine wpQuiet_nil ?_
    rintro W8 ⟨⟨W, hW8⟩, rfl⟩
    have hT8 := hTc.below hW8
    have hB8 := hBc.trans (hW8.mono hBc.size)
    have hb8 := blk_below hbc hW8
    have hd8 := blk_below hbd hW8
    have x1 := cell_far hb8 1 _ rfl
    have y0 := cell_far hd8 0 _ rfl
    have y1 := cell_far hd8 1 _ rfl
    have y2 := cell_far hd8 2 _ rfl
    clear hTc hBc hbc hbd z0 z1 z2
    go_wp2
    have u0 := GW.cell y0
    have u1 := GW.cell y1
    have u2 := GW.cell y2
    clear y0 y1 y2
    refine wp_region_grown (by kernel_rfl) (by kernel_rfl) ?_
    repeat (first | go_big_quiet_step (fail) | quiet_step (fail))
    refine wpQuiet_nil ?_
    rintro W9 ⟨⟨W, hW9⟩, rfl⟩
    have hT9 := hT8.below hW9
    have hB9 := hB8.trans (hW9.mono hB8.size)
    have x9 := cell_below x1 hW9
    clear u0 u1 u2 x1
    by_cases hp0 : a.f1 < 0
    · rw [if_neg (by omega)] at hsz
      subst hsz
      go_wp2_with (first | (go_at_call 24; with_reducible refine (hsize _ _ _ hT9).mono ?_; rintro e w10 ⟨rfl, hB10⟩))
      go_ret
      exact ⟨rfl, hB9.trans (hB10.mono hB9.size)⟩
    by_cases hp1 : (l.length : Int) ≤ a.f1
    · rw [if_neg (by omega)] at hsz
      subst hsz
      go_wp2_with (first | (go_at_call 24; with_reducible refine (hsize _ _ _ hT9).mono ?_; rintro e w10 ⟨rfl, hB10⟩))
      go_ret
      exact ⟨rfl, hB9.trans (hB10.mono hB9.size)⟩
    have hp0' : 0 ≤ a.f1 := by omega
    have hp1' : a.f1 < (l.length : Int) := by omega
    obtain ⟨ad, rfl, hcell⟩ := Kd.at_int (Kd.C_below hr0 hB9) a.f1 hp0' hp1'
    rw [if_pos ⟨hp0', hp1'⟩] at hsz
    rw [show rd l a.f1 = sz from by rw [hsz]; rfl] at hcell
    clear hsz
    go_wp2_with (first | (go_at_call 24; with_reducible refine (hsize _ _ _ hT9).mono ?_; rintro e w10 ⟨rfl, hB10⟩))
    go_ret
    exact ⟨rfl, hB9.trans (hB10.mono hB9.size)⟩
  have hv1' : 1 ≤ v := by omega
  have hv2' : v ≤ (al.length : Int) := by omega
  have hatn := hsome hv1' hv2'
  clear hnone hsome
  go_enter Try.func3, Try.ntmps3
  go_wp2_with (first
    | (go_at_call 14; with_reducible refine (awake_calls _).mono ?_; rintro e w1 ⟨rfl, hB1'⟩; have hB1 := hBa.trans (hB1'.mono hBa.size); have hbw1 := blk_below hbw0 hB1')
    | (go_at_call 15; with_reducible refine (hsm _ hB1).mono ?_; rintro e w2 ⟨rfl, hD2⟩; have hB2 := hB1.trans (hD2.below.mono hB1.size); have hbw2 := blk_below hbw1 hD2.below)
    | (go_at_call 16; with_reducible refine (hmk _ hB2).mono ?_; rintro e w3 ⟨g, rfl, hT, hB3⟩; have hB3' := hB2.trans (hB3.mono hB2.size); have hbw3 := blk_below hbw2 hB3)
    | (go_at_call 17; with_reducible refine (hgd _ hB3').mono ?_; rintro e w4 ⟨rfl, hD4⟩; have hB4' := hB3'.trans (hD4.below.mono hB3'.size); have hT4 := hT.below hD4.below; have hbw4 := blk_below hbw3 hD4.below)
    | (go_at_call 18; with_reducible refine (hall _ hB4').mono ?_; rintro e w5 ⟨v5, rfl, hR5, hB5⟩; have hB5' := hB4'.trans (hB5.mono hB4'.size); have hT5 := hT4.below hB5; have hbw5 := blk_below hbw4 hB5; obtain ⟨Ao, co, rfl⟩ := Kd.R_slice hR5)
    | (go_at_call 19; with_reducible refine (hatn _ _ _ hT5).mono ?_; rintro e w6 ⟨b, hAb, rfl, hB6⟩; have hB6' := hB5'.trans (hB6.mono hB5'.size); have hT6 := hT5.below hB6; have hbw6 := blk_below hbw5 hB6))
  have hB6a : Below w6.heap.size w6 (w6.alloc (.cells #[.int .i64 b.f0, .int .i64 b.f1, .int .i64 b.f2] 24)) := (Below.refl _ _).alloc (Nat.le_refl _) _
  have hTc := hT6.below hB6a
  obtain ⟨hb1, hb2⟩ := hat b hAb
  have hvb := hvar b
  rw [hb2] at hvb
  rw [show (v - 1).toNat = v.toNat - 1 by omega] at hb1
  obtain ⟨adl, cl, hsl, l0, l1, l2⟩ := atom_cells hR5 _ b hb1
  cases hsl
  have l0 := cell_below l0 (hB6.trans (hB6a.mono hB6.size))
  have l1 := cell_below l1 (hB6.trans (hB6a.mono hB6.size))
  have l2 := cell_below l2 (hB6.trans (hB6a.mono hB6.size))
  have hBc := hB6'.trans (hB6a.mono hB6'.size)
  have hbc := blk_below hbw6 hB6a
  have hbd := blk_new w6 (.cells #[.int .i64 b.f0, .int .i64 b.f1, .int .i64 b.f2] 24)
  clear hT hT4 hT5 hT6 hB1 hB2 hB3 hB3' hB4' hB5' hB6' hbw0 hbw1 hbw2 hbw3 hbw4 hbw5 hbw6 hmk hgd hall hBa hD2 hD4 hB1' hatn hB5 hB6 hat hb1 hb2 hAb hR5
  generalize (w6.alloc (.cells #[.int .i64 b.f0, .int .i64 b.f1, .int .i64 b.f2] 24)) = W7 at hTc hBc hbc hbd l0 l1 l2 ⊢
  have z0 := GW.cell (cell_far hbc 0 _ rfl)
  have z1 := GW.cell (cell_far hbc 1 _ rfl)
  have z2 := GW.cell (cell_far hbc 2 _ rfl)
  refine wp_region_grown (by kernel_rfl) (by kernel_rfl) ?_
  repeat (first | go_big_quiet_step (first
    | (go_at_call 20; exact Hlp.Calls.grown _ ((hvars _ _ g (hTc.below (Subtype.property _))).mono fun e w' h => ⟨h.1, h.2 ▸ Below.refl _ _⟩))
    | (go_at_call 21; exact Hlp.Calls.grown _ ((hpacks _ _ g (hTc.below (Subtype.property _))).mono fun e w' h => ⟨h.1, h.2 ▸ Below.refl _ _⟩))
    | (go_at_call 22; exact Hlp.Calls.grown _ (hva _ _ g (hTc.below (Subtype.property _))))
    | (go_at_call 23; exact Hlp.Calls.grown _ ((hrv _ (GW.below hBc _))))) | quiet_step (fail))
  refine wpQuiet_nil ?_
  rintro W8 ⟨⟨W, hW8⟩, rfl⟩
  have hT8 := hTc.below hW8
  have hB8 := hBc.trans (hW8.mono hBc.size)
  have hb8 := blk_below hbc hW8
  have hd8 := blk_below hbd hW8
  have x1 := cell_far hb8 1 _ rfl
  have y0 := cell_far hd8 0 _ rfl
  have m0 := GW.cell (cell_below l0 hW8)
  have m1 := GW.cell (cell_below l1 hW8)
  have m2 := GW.cell (cell_below l2 hW8)
  clear l0 l1 l2
  have y1 := cell_far hd8 1 _ rfl
  have y2 := cell_far hd8 2 _ rfl
  clear hTc hBc hbc hbd z0 z1 z2
  go_wp2
  have u0 := GW.cell y0
  have u1 := GW.cell y1
  have u2 := GW.cell y2
  clear y0 y1 y2
  have hi0 : 0 ≤ v - 1 := by omega
  have hi1 : v - 1 < (al.length : Int) := by omega
  have hiw : IntKind.i64.wrap (v - 1) = v - 1 := by rw [IntKind.wrap_i64]; omega
  refine wp_region_grown (by kernel_rfl) (by kernel_rfl) ?_
  repeat (first | go_big_quiet_step (first
    | (go_at_call 22; exact Hlp.Calls.grown _ (hvb _ _ g (hT8.below (Subtype.property _))))) | quiet_step (fail))
  refine wpQuiet_nil ?_
  rintro W9 ⟨⟨W, hW9⟩, rfl⟩
  have hT9 := hT8.below hW9
  have hB9 := hB8.trans (hW9.mono hB8.size)
  have x9 := cell_below x1 hW9
  clear u0 u1 u2 x1 m0 m1 m2
  by_cases hp0 : a.f1 < 0
  · rw [if_neg (by omega)] at hsz
    subst hsz
    go_wp2_with (first | (go_at_call 24; with_reducible refine (hsize _ _ _ hT9).mono ?_; rintro e w10 ⟨rfl, hB10⟩))
    go_ret
    exact ⟨rfl, hB9.trans (hB10.mono hB9.size)⟩
  by_cases hp1 : (l.length : Int) ≤ a.f1
  · rw [if_neg (by omega)] at hsz
    subst hsz
    go_wp2_with (first | (go_at_call 24; with_reducible refine (hsize _ _ _ hT9).mono ?_; rintro e w10 ⟨rfl, hB10⟩))
    go_ret
    exact ⟨rfl, hB9.trans (hB10.mono hB9.size)⟩
  have hp0' : 0 ≤ a.f1 := by omega
  have hp1' : a.f1 < (l.length : Int) := by omega
  obtain ⟨ad, rfl, hcell⟩ := Kd.at_int (Kd.C_below hr0 hB9) a.f1 hp0' hp1'
  rw [if_pos ⟨hp0', hp1'⟩] at hsz
  rw [show rd l a.f1 = sz from by rw [hsz]; rfl] at hcell
  clear hsz
  go_wp2_with (first | (go_at_call 24; with_reducible refine (hsize _ _ _ hT9).mono ?_; rintro e w10 ⟨rfl, hB10⟩))
  go_ret
  exact ⟨rfl, hB9.trans (hB10.mono hB9.size)⟩
end Go.Proofs.Ytohgjbkiemnfnaa.Ato
