/- RupEmpty: what the laws on units try first; the law. Plain words; walks by hand. -/
import Derived.Test.YtohgjbkiemnfnaaUg
namespace Go.Proofs.Ytohgjbkiemnfnaa.Rup
open Go Go.RowKit Go.Proofs.Ytohgjbkiemnfnaa.R Go.Proofs.Ytohgjbkiemnfnaa.Hlp Go.Proofs.Ytohgjbkiemnfnaa.Aid Go.Proofs.Ytohgjbkiemnfnaa.Clause12 Go.Proofs.Ytohgjbkiemnfnaa.Clean12 Go.Proofs.YtohgjbkiemnfnaaW.PrintWords Go.Proofs.YtohgjbkiemnfnaaW.PrintLast Go.Proofs.YtohgjbkiemnfnaaW.PrintMore
attribute [local go_sem] max2_int min2_int max_two min_two
set_option linter.unusedVariables false
set_option linter.unusedSimpArgs false
/-- Literals of a variable, none with its negation: clean. -/
theorem cl2_lone {c : List Int} (h : ∀ x ∈ c, Lit1 x) (hC : Cons c) : (cl2 c).2 = true := by
  unfold cl2
  rw [if_pos ((gd_iff c).mpr h), (clean_lone c fun x hx _ hn => hC x hx hn).1]
  rfl
/-- A row that is clean as it stands. -/
theorem cl2_rise {c : List Int} (h : ∀ x ∈ c, Lit1 x) (hC : Cons c) (hr : Rise c) : cl2 c = (c, true) := by
  have h2 := cl2_lone h hC
  obtain ⟨hm, _, hr2, _⟩ := cl2_ok h2
  have e : (cl2 c).1 = c := rise_one _ _ hr2 hr hm
  rw [← h2]
  conv => rhs; rw [← e]
  rw [e]
  exact Prod.ext e rfl
theorem negs_mem {c : List Int} {y : Int} : y ∈ negs c ↔ -y ∈ c := by
  unfold negs
  rw [List.mem_map]
  exact ⟨fun ⟨x, hx, e⟩ => by rw [← e, Int.neg_neg]; exact hx, fun h => ⟨-y, h, Int.neg_neg y⟩⟩
theorem negs_lit {c : List Int} (h : ∀ x ∈ c, Lit1 x) : ∀ x ∈ negs c, Lit1 x := fun x hx => by
  obtain ⟨h0, h1, h2⟩ := h _ (negs_mem.mp hx)
  exact ⟨by omega, by omega, by omega⟩
theorem negs_cons {c : List Int} (h : Cons c) : Cons (negs c) := fun x hx hn => by
  have h1 := negs_mem.mp hx
  have h2 := negs_mem.mp hn
  exact h (-x) h1 h2
/-- A clause that is there follows. -/
theorem fol_mem {X : List (List Int)} {d : List Int} (hd : d ∈ X) (h : (cl2 d).2 = true) (he : (cl2 d).1 = d) : Fol X d true := by
  obtain ⟨_, hL, _, hC, _, hg, _⟩ := cl2_ok h
  rw [he] at hL hC
  unfold Fol
  rw [if_pos hg]
  refine ⟨[], false, ?_, rfl⟩
  have h2 := cl2_lone (negs_lit hL) (negs_cons hC)
  obtain ⟨hm, _⟩ := cl2_ok h2
  unfold UnitsOut
  rw [if_pos h2]
  exact ⟨none, ⟨d, hd, fun y hy => Der.base ((hm _).mpr (negs_mem.mpr (by rw [Int.neg_neg]; exact hy)))⟩, rfl, fun _ => rfl, fun T e => by cases e⟩
/-- Where the clause without literals is there, each right one follows. -/
theorem fol_empty {X : List (List Int)} (h0 : [] ∈ X) (c : List Int) : Fol X c (gd c) := by
  unfold Fol
  by_cases hg : gd c = true
  · rw [if_pos hg, hg]
    refine ⟨[], false, ?_, rfl⟩
    unfold UnitsOut
    split
    · exact ⟨none, ⟨[], h0, fun y hy => by cases hy⟩, rfl, fun _ => rfl, fun T e => by cases e⟩
    · exact ⟨rfl, rfl⟩
  · rw [if_neg hg]
    exact Bool.eq_false_iff.mpr hg
/-! What the document tells. -/
theorem rise2 (a b : Int) (h : av a < av b) : Rise [a, b] := by
  refine List.pairwise_cons.mpr ⟨fun x hx => ?_, List.pairwise_singleton _ _⟩
  rw [List.mem_singleton] at hx
  subst hx
  exact h
theorem aw_a : cl2 [1, 2] = ([1, 2], true) := cl2_rise (fun x hx => by simp at hx; unfold Lit1; omega) (fun x hx hn => by simp at hx hn; omega) (rise2 _ _ (by decide))
theorem aw_b : cl2 [-1, 2] = ([-1, 2], true) := cl2_rise (fun x hx => by simp at hx; unfold Lit1; omega) (fun x hx hn => by simp at hx hn; omega) (rise2 _ _ (by decide))
theorem rise1 (a : Int) : Rise [a] := List.pairwise_singleton _ _
theorem aw_c : cl2 [-2] = ([-2], true) := cl2_rise (fun x hx => by simp at hx; unfold Lit1; omega) (fun x hx hn => by simp at hx hn; omega) (rise1 _)
theorem aw_d : cl2 [-1] = ([-1], true) := cl2_rise (fun x hx => by simp at hx; unfold Lit1; omega) (fun x hx hn => by simp at hx hn; omega) (rise1 _)
theorem aw_ok : ClsOk [[1, 2], [-1, 2]] := fun c hc => by
  rw [List.mem_cons, List.mem_singleton] at hc
  rcases hc with rfl | rfl
  · exact ⟨by decide, fun x hx => by simp at hx; unfold Lit1; omega, by decide⟩
  · exact ⟨by decide, fun x hx => by simp at hx; unfold Lit1; omega, by decide⟩
theorem aw_f2 : Fol [[1, 2], [-1, 2]] [2] true := by
  unfold Fol
  rw [if_pos ((gd_iff _).mpr fun x hx => by simp at hx; unfold Lit1; omega)]
  refine ⟨[], false, ?_, rfl⟩
  unfold UnitsOut
  rw [show negs [2] = [-2] from rfl, aw_c, if_pos rfl]
  have h2 : Der [[1, 2], [-1, 2]] [-2] (-2) := Der.base (by simp)
  have h1 : Der [[1, 2], [-1, 2]] [-2] 1 := Der.unit (c := [1, 2]) (by simp) (by simp) fun y hy hne => by
    have : y = 2 := by simp at hy; omega
    subst this
    exact h2
  refine ⟨none, ⟨[-1, 2], by simp, fun y hy => ?_⟩, rfl, fun _ => rfl, fun T e => by cases e⟩
  have : y = -1 ∨ y = 2 := by simpa using hy
  rcases this with rfl | rfl
  · exact h1
  · exact h2
theorem aw_f1 : Fol [[1, 2], [-1, 2]] [1] false := by
  unfold Fol
  rw [if_pos ((gd_iff _).mpr fun x hx => by simp at hx; unfold Lit1; omega)]
  refine ⟨(cleanP [-1, 2]).1, true, ?_, rfl⟩
  unfold UnitsOut
  rw [show negs [1] = [-1] from rfl, aw_d, if_pos rfl]
  have h1 : Der [[1, 2], [-1, 2]] [-1] (-1) := Der.base (by simp)
  refine ⟨some [-1, 2], ⟨fun x hx => by simp at hx; simp [hx], fun x hx hn => by simp at hx hn; omega, fun x hx => ?_, fun c hc => ?_⟩, rfl, fun e => (by cases e), fun T e => (by rw [← Option.some.inj e])⟩
  · have : x = -1 ∨ x = 2 := by simpa using hx
    rcases this with rfl | rfl
    · exact h1
    · exact Der.unit (c := [1, 2]) (by simp) (by simp) fun y hy hne => by
        have : y = 1 := by simp at hy; omega
        subst this
        exact h1
  · have e1 : tr [-1, 2] 1 = -1 := by decide
    have e2 : tr [-1, 2] 2 = 1 := by decide
    have e3 : tr [-1, 2] (-1) = 1 := by decide
    have : c = [1, 2] ∨ c = [-1, 2] := by simpa using hc
    rcases this with rfl | rfl
    · refine ⟨fun hf => by have := hf 2 (by simp); omega, fun x ⟨hx, h0, _⟩ => ?_⟩
      have : x = 1 ∨ x = 2 := by simpa using hx
      rcases this with rfl | rfl <;> omega
    · refine ⟨fun hf => by have := hf 2 (by simp); omega, fun x ⟨hx, h0, _⟩ => ?_⟩
      have : x = -1 ∨ x = 2 := by simpa using hx
      rcases this with rfl | rfl <;> omega
theorem new_ints (xs : List Int) (t : Nat) (W : World) (hl : xs.length ≤ 9223372036854775807) : (Kd.int .i64).C (W.alloc (.cells (ints xs).toArray t)) (some ⟨W.heap.size, 0, none⟩) xs.length xs := Own.new_row xs t W hl
theorem add_clean {W w0 : World} {base g : Nat} {v : Value} {X : List (List Int)} (hS : ST W base g v X) (hXl : X.length ≤ 1000000) (hB0 : Below base w0 W) (hbw : base ≤ W.heap.size) {A : Option Addr} {cc : Nat} {lits : List Int} (hr : Kd.C (Kd.int .i64) W A lits.length lits) (hcc : lits.length ≤ cc) (hl : lits.length ≤ 1000000) (he : cl2 lits = (lits, true)) :
    Calls Try.prog 46 #[.pointer (some ⟨g, 0, none⟩), .slice A lits.length cc] W fun e w' => ∃ v', e = .returned (.bool true) ∧ ST w' base g v' (X ++ [lits]) ∧ Below base w0 w' ∧ Kept W w' (StS g v) ∧ W.heap.size ≤ w'.heap.size := by
  refine (add_calls hS hXl hB0 hbw hr hcc hl).mono ?_
  rintro e w' ⟨v', h1, h2, h3, h4, _⟩
  rw [he] at h1 h2
  exact ⟨v', h1, h2, h3, h4, h4.1⟩
theorem follows_is {W : World} {g : Nat} {X : List (List Int)} (hS : SR W g X) (hX : ClsOk X) (hXl : X.length ≤ 1000000) {A : Option Addr} {cc : Nat} {c : List Int} (hr : Kd.C (Kd.int .i64) W A c.length c) (hcc : c.length ≤ cc) (hsz : c.length + X.flatten.length ≤ 900000) {b : Bool} (hF : Fol X c b) :
    Calls Try.prog 45 #[.pointer (some ⟨g, 0, none⟩), .slice A c.length cc] W fun e w' => e = .returned (.bool b) ∧ Below W.heap.size W w' := by
  refine (follows_calls hS hX hXl hr hcc hsz).mono ?_
  rintro e w' ⟨b', rfl, hB, hF'⟩
  rw [hF'.one hF]
  exact ⟨rfl, hB⟩
theorem sr_two {W : World} {base g : Nat} {v : Value} (h : ST W base g v ([[1, 2]] ++ [[-1, 2]])) : SR W g [[1, 2], [-1, 2]] := h.sr
theorem len_two {W : World} {g : Nat} (h : SR W g [[1, 2], [-1, 2]]) : Calls Try.prog 48 #[.pointer (some ⟨g, 0, none⟩)] W fun e w' => e = .returned (.int .i64 2) ∧ w' = W := len_calls h
theorem alloc_le (w : World) (o : Obj) : w.heap.size ≤ (w.alloc o).heap.size := by simp
theorem lit_a (W : World) : (Kd.int .i64).C (W.alloc (.cells #[.int .i64 1, .int .i64 2] 3)) (some ⟨W.heap.size, 0, none⟩) [1, 2].length [1, 2] := new_ints [1, 2] 3 W (by decide)
theorem lit_b (W : World) : (Kd.int .i64).C (W.alloc (.cells #[.int .i64 (-1), .int .i64 2] 3)) (some ⟨W.heap.size, 0, none⟩) [-1, 2].length [-1, 2] := new_ints [-1, 2] 3 W (by decide)
theorem lit_c (W : World) : (Kd.int .i64).C (W.alloc (.cells #[.int .i64 2] 3)) (some ⟨W.heap.size, 0, none⟩) [2].length [2] := new_ints [2] 3 W (by decide)
theorem lit_d (W : World) : (Kd.int .i64).C (W.alloc (.cells #[.int .i64 1] 3)) (some ⟨W.heap.size, 0, none⟩) [1].length [1] := new_ints [1] 3 W (by decide)
theorem aw_add1 {w W : World} {v : Value} (hS : ST W w.heap.size w.heap.size v []) (hB : Below w.heap.size w W) : Calls Try.prog 46 #[.pointer (some ⟨w.heap.size, 0, none⟩), .slice (some ⟨W.heap.size, 0, none⟩) 2 2] (W.alloc (.cells #[.int .i64 1, .int .i64 2] 3)) fun e w' => ∃ v', e = .returned (.bool true) ∧ ST w' w.heap.size w.heap.size v' [[1, 2]] ∧ Below w.heap.size w w' := by
  refine (add_clean (w0 := w) (hS.below ((Below.refl _ _).alloc (Nat.le_refl _) (.cells #[.int .i64 1, .int .i64 2] 3))) (by decide) (hB.alloc hB.size _) (Nat.le_trans hB.size (alloc_le _ _)) (lit_a W) (cc := 2) (by decide) (by decide) aw_a).mono ?_
  rintro e w' ⟨v', h1, h2, h3, _⟩
  exact ⟨v', h1, h2, h3⟩
theorem aw_add2 {w W : World} {v : Value} (hS : ST W w.heap.size w.heap.size v [[1, 2]]) (hB : Below w.heap.size w W) : Calls Try.prog 46 #[.pointer (some ⟨w.heap.size, 0, none⟩), .slice (some ⟨W.heap.size, 0, none⟩) 2 2] (W.alloc (.cells #[.int .i64 (-1), .int .i64 2] 3)) fun e w' => ∃ v', e = .returned (.bool true) ∧ ST w' w.heap.size w.heap.size v' [[1, 2], [-1, 2]] ∧ Below w.heap.size w w' := by
  refine (add_clean (w0 := w) (hS.below ((Below.refl _ _).alloc (Nat.le_refl _) (.cells #[.int .i64 (-1), .int .i64 2] 3))) (by decide) (hB.alloc hB.size _) (Nat.le_trans hB.size (alloc_le _ _)) (lit_b W) (cc := 2) (by decide) (by decide) aw_b).mono ?_
  rintro e w' ⟨v', h1, h2, h3, _⟩
  exact ⟨v', h1, h2, h3⟩
theorem aw_fl1 {w W : World} (hS : SR W w.heap.size [[1, 2], [-1, 2]]) : Calls Try.prog 45 #[.pointer (some ⟨w.heap.size, 0, none⟩), .slice (some ⟨W.heap.size, 0, none⟩) 1 1] (W.alloc (.cells #[.int .i64 2] 3)) fun e w' => e = .returned (.bool true) ∧ Below (W.alloc (.cells #[.int .i64 2] 3)).heap.size (W.alloc (.cells #[.int .i64 2] 3)) w' :=
  follows_is (cc := 1) (hS.below ((Below.refl _ _).alloc (Nat.le_refl _) (.cells #[.int .i64 2] 3))) aw_ok (by decide) (lit_c W) (by decide) (by decide) aw_f2
theorem aw_fl2 {w W : World} (hS : SR W w.heap.size [[1, 2], [-1, 2]]) : Calls Try.prog 45 #[.pointer (some ⟨w.heap.size, 0, none⟩), .slice (some ⟨W.heap.size, 0, none⟩) 1 1] (W.alloc (.cells #[.int .i64 1] 3)) fun e w' => e = .returned (.bool false) ∧ Below (W.alloc (.cells #[.int .i64 1] 3)).heap.size (W.alloc (.cells #[.int .i64 1] 3)) w' :=
  follows_is (cc := 1) (hS.below ((Below.refl _ _).alloc (Nat.le_refl _) (.cells #[.int .i64 1] 3))) aw_ok (by decide) (lit_d W) (by decide) (by decide) aw_f1
theorem grow_two {w W W' : World} {o : Obj} (hB : Below w.heap.size w W) (h : Below (W.alloc o).heap.size (W.alloc o) W') : Below w.heap.size w W' := (hB.alloc hB.size o).trans (h.mono (Nat.le_trans hB.size (alloc_le _ _)))
theorem sr_grow {W W' : World} {o : Obj} {g : Nat} {X : List (List Int)} (h : SR W g X) (hb : Below (W.alloc o).heap.size (W.alloc o) W') : SR W' g X := (h.below ((Below.refl _ _).alloc (Nat.le_refl _) o)).below hb
theorem ST.two {W : World} {base g : Nat} {v : Value} {X : List (List Int)} (h : ST W base g v X) : SR W g X := h.sr
set_option maxHeartbeats 400000 in
set_option maxRecDepth 100000 in
theorem awake_calls (w : World) : Calls Try.prog 42 #[] w fun e w' => e = .returned (.bool true) ∧ Below w.heap.size w w' := by
  have hB0 : Below w.heap.size w (w.alloc (.cells #[.slice none 0 0] 86)) := (Below.refl _ _).alloc (Nat.le_refl _) _
  have hS0 : ST (w.alloc (.cells #[.slice none 0 0] 86)) w.heap.size w.heap.size (.slice none 0 0) [] := ⟨blk_new w _, Nat.le_refl _, RR.nil _ _⟩
  have hA1 := aw_add1 hS0 hB0
  rw [show (w.alloc (.cells #[.slice none 0 0] 86)).heap.size = w.heap.size + 1 by simp] at hA1
  go_enter Try.func42, Try.ntmps42
  go_wp2_with (first
    | (go_at_call 46; with_reducible refine hA1.mono ?_; rintro e w1 ⟨v1, rfl, hS1, hB1⟩; have hA2 := aw_add2 hS1 hB1; clear hA1)
    | (go_at_call 46; with_reducible refine hA2.mono ?_; rintro e w2 ⟨v2, rfl, hS2, hB2⟩; have hR2 := hS2.two; have hF1 := aw_fl1 hR2; clear hA2)
    | (go_at_call 45; with_reducible refine hF1.mono ?_; rintro e w3 ⟨rfl, hB3⟩; have hBe3 := grow_two hB2 hB3; have hR3 := sr_grow hR2 hB3; have hF2 := aw_fl2 hR3; clear hF1)
    | (go_at_call 45; with_reducible refine hF2.mono ?_; rintro e w4 ⟨rfl, hB4⟩; have hBe4 := grow_two hBe3 hB4; have hR4 := sr_grow hR3 hB4; have hlen := len_two hR4)
    | (go_at_call 48; with_reducible refine hlen.mono ?_; rintro e w5 ⟨rfl, rfl⟩))
  go_ret
  exact ⟨rfl, hBe4⟩
/-! RupEmpty. -/
theorem cl_nil : cl2 [] = ([], true) := cl2_rise (fun x hx => by cases hx) (fun x hx => by cases hx) List.Pairwise.nil
theorem find_nil {X : List (List Int)} (h : [] ∈ X) : findP X [] ≥ 0 := by
  unfold findP
  rw [cl_nil]
  dsimp only
  rw [if_pos rfl]
  unfold Fun.idxP
  rw [if_pos (List.any_eq_true.mpr ⟨[], h, by simp⟩)]
  omega
theorem Clean.nil_ok {X : List (List Int)} (h : Clean X) : ClsOk (X ++ [[]]) := fun c hc => by
  rcases List.mem_append.mp hc with hc | hc
  · exact h.ok c hc
  · rw [List.mem_singleton] at hc
    subst hc
    exact ⟨List.nodup_nil, fun x hx => (by cases hx), by decide⟩
theorem nil_flat {X : List (List Int)} : (X ++ [[]]).flatten.length = X.flatten.length := by simp
set_option maxHeartbeats 4000000 in
set_option maxRecDepth 100000 in
theorem empty_calls {w : World} {A Ac : Option Addr} {ca cc : Nat} {l : List S88} {c : List Int} (hr : Kd.C k88 w A l.length l) (hca : l.length ≤ ca) (hrc : Kd.C (Kd.int .i64) w Ac c.length c) (hcc : c.length ≤ cc) :
    Calls Try.prog 12 #[.slice A l.length ca, .slice Ac c.length cc] w fun e w' => e = .returned (.bool true) ∧ Below w.heap.size w w' := by
  have haw := awake_calls w
  obtain ⟨kf, hkf⟩ := (few_ev l).rounds
  have hfc := fun W (hB : Below w.heap.size w W) => ferrulelaw22_few.calls kf A ca l (fewP l) W (Kd.C_below hr hB) hca hkf
  by_cases hf : fewP l = true
  case neg =>
    rw [Bool.eq_false_iff.mpr hf] at hfc
    go_enter Try.func12, Try.ntmps12
    go_wp2_with (first
      | (go_at_call 42; with_reducible refine haw.mono ?_; rintro e w1 ⟨rfl, hB1⟩)
      | (go_at_call 43; with_reducible refine (hfc _ hB1).mono ?_; rintro e w2 ⟨rfl, hD2⟩))
    go_ret
    exact ⟨rfl, hB1.trans (hD2.below.mono hB1.size)⟩
  case pos =>
    have hpl := fun W (hB : Below w.heap.size w W) => played_calls (w := W) (Kd.C_below hr hB) hca hf
    obtain ⟨hl30, hl12⟩ := few_iff hf
    have hcl := play_clean l hl12 l.length (Nat.le_refl _)
    have hlen := play_len l l.length (Nat.le_refl _)
    rw [List.take_of_length_le (Nat.le_refl _)] at hcl hlen
    rw [hf] at hfc
    clear hf hkf
    generalize playX l = X at *
    by_cases h12 : (c.length : Int) > 12
    case pos =>
      go_enter Try.func12, Try.ntmps12
      go_wp2_with (first
        | (go_at_call 42; with_reducible refine haw.mono ?_; rintro e w1 ⟨rfl, hB1⟩)
        | (go_at_call 43; with_reducible refine (hfc _ hB1).mono ?_; rintro e w2 ⟨rfl, hD2⟩))
      go_ret
      exact ⟨rfl, hB1.trans (hD2.below.mono hB1.size)⟩
    case neg =>
      have h12' : ¬ (12 : Int) < (c.length : Int) := h12
      have hflat := hcl.flat
      have hXok := hcl.ok
      go_enter Try.func12, Try.ntmps12
      go_wp2_with (first
        | (go_at_call 42; with_reducible refine haw.mono ?_; rintro e w1 ⟨rfl, hB1⟩)
        | (go_at_call 43; with_reducible refine (hfc _ hB1).mono ?_; rintro e w2 ⟨rfl, hD2⟩; have hBw2 := hB1.trans (hD2.below.mono hB1.size))
        | (go_at_call 44; with_reducible refine (hpl _ hBw2).mono ?_; rintro e w3 ⟨g, v, vx, rfl, hS3, hX3, hB3, hap3⟩; obtain ⟨Ax, cx, rfl, hcx, hCx⟩ := hX3.reads; have hBw3 := hBw2.trans (hB3.mono hBw2.size)))
      have hSR3 := hS3.sr
      go_loopw [8] (fun v8 wr => ∃ i : Nat, i ≤ X.length ∧ v8 = .int .i64 i ∧ Below w3.heap.size w3 wr)
        (fun v8 _ => X.length - (intOf v8).toNat)
      case atStart => exact ⟨0, Nat.zero_le _, rfl, Below.refl _ _⟩
      case round =>
        obtain ⟨i, hi0, rfl, hB⟩ := hrel
        by_cases hi1 : i < X.length
        · have hiI : (i : Int) < (X.length : Int) := by omega
          obtain ⟨ad, A1, c1, rfl, hcell1, hc1, hR1⟩ := at_L1 (Kd.C_below hCx hB) (i : Int) (by omega) hiI
          rw [Int.toNat_natCast] at hcell1
          rw [rdL_nat X i hi1] at hcell1 hc1 hR1
          have hmem : X[i] ∈ X := List.getElem_mem hi1
          obtain ⟨q1, q2, q3⟩ := hcl _ hmem
          have hfo := follows_is (hSR3.below hB) hXok (by omega) hR1 hc1 (by omega) (fol_mem hmem q1 q2)
          clear q1 q2 hmem
          generalize X[i] = d at *
          go_wp2_with (go_at_call 45; with_reducible refine hfo.mono ?_; rintro e w4 ⟨rfl, hB4⟩)
          exact ⟨⟨i + 1, hi1, rfl, hB.trans (hB4.mono hB.size)⟩, by simp [intOf]; omega⟩
        · have hiI : ¬ (i : Int) < (X.length : Int) := by omega
          have hSr := hS3.below hB
          have hBwr := hBw3.trans (hB.mono hBw3.size)
          have hnil : [] ∈ X ++ [[]] := by simp
          have had := add_clean (w0 := w2) hSr (by omega) (hB3.trans (hB.mono hB3.size)) (Nat.le_trans hB3.size hB.size) (Kd.C_nil (Kd.int .i64) wr) (Nat.le_refl _) (by decide) cl_nil
          have hha := fun W (hS : SR W g (X ++ [[]])) => has_calls hS (Kd.C_nil (Kd.int .i64) W) (Nat.le_refl _) (by decide)
          have hfn : decide (findP (X ++ [[]]) [] ≥ 0) = true := decide_eq_true (find_nil hnil)
          rw [hfn] at hha
          have hfo := fun W (hS : SR W g (X ++ [[]])) (hB : Below w.heap.size w W) => follows_is hS hcl.nil_ok (by rw [List.length_append, List.length_singleton]; omega) (Kd.C_below hrc hB) hcc (by rw [nil_flat]; omega) (fol_empty hnil c)
          obtain ⟨kg, hkg⟩ := (refGood_ev c (by omega)).rounds
          have hgc := fun W (hB : Below w.heap.size w W) => ferruleref12_Good.calls kg Ac cc c 16777216 (gd c) W (Kd.C_below hrc hB) hcc hkg
          have hqq : (gd c == gd c) = true := by simp
          clear hkg hfn
          generalize gd c = q at *
          simp only [List.length_nil] at had hha
          go_wp2_with (first
            | (go_at_call 46; with_reducible refine had.mono ?_; rintro e w5 ⟨v5, rfl, hS5, hB5, hK5, hs5⟩; have hBw5 := hBw2.trans (hB5.mono hBw2.size); have hR5 := hS5.sr; have hha5 := hha w5 hR5)
            | (go_at_call 47; with_reducible refine hha5.mono ?_; rintro e w6 ⟨rfl, hB6⟩; have hR6 := hR5.below hB6; have hBw6 := hBw5.trans (hB6.mono hBw5.size); have hfo6 := hfo w6 hR6 hBw6)
            | (go_at_call 45; with_reducible refine hfo6.mono ?_; rintro e w7 ⟨rfl, hB7⟩; have hBw7 := hBw6.trans (hB7.mono hBw6.size); have hgc7 := hgc w7 hBw7)
            | (go_at_call 37; with_reducible refine hgc7.mono ?_; rintro e w8 ⟨rfl, hD8⟩))
          go_ret
          exact ⟨by simp, hBw7.trans (hD8.below.mono hBw7.size)⟩
end Go.Proofs.Ytohgjbkiemnfnaa.Rup
