-- Written by a program of this session (wip/xp), out of the translation. Not trusted: Lean checks it.
import Derived.Test.YtildmfegfkiknaaDoorX0
import Derived.Test.YtildmfegfkiknaaDoorXm
-- shrunk
namespace Go.Proofs.YtildmfegfkiknaaDoor.X
open Go.RowKit Go.Proofs.YtildmfegfkiknaaDoorW.PrintWords Go.Proofs.YtildmfegfkiknaaDoorW.PrintLast Go.Proofs.YtildmfegfkiknaaDoorW.PrintMore
attribute [local go_sem] Lab.str_gtr Lab.str_leq Lab.str_geq max2_int min2_int max_two min_two max_three min_three max_four min_four   -- for this text's walks alone
set_option linter.unusedVariables false
set_option linter.unusedSimpArgs false

/-! ### ferruleref03_Text: function 46 -/
def ferruleref03_Text.f (k : Nat) (a0_0 : Int) (a0_1 : Int) (a0_2 : Int) (l0_3 : List ByteArray) (l0_4 : List ByteArray) : Option (ByteArray) := (ferruleref01_Text.f k a0_0).bind fun t102 => (if t102.size + 1 ≤ 9223372036854775807 then ((ferruleref01_Text.f k a0_1).bind fun t103 => (if t102.size + 1 + t103.size ≤ 9223372036854775807 then (if t102.size + 1 + t103.size + 1 ≤ 9223372036854775807 then ((ferruleref01_Text.f k a0_2).bind fun t104 => (if t102.size + 1 + t103.size + 1 + t104.size ≤ 9223372036854775807 then (if (l0_3.length : Int) > 0 then (if t102.size + 1 + t103.size + 1 + t104.size + 1 ≤ 9223372036854775807 then ((ferruleref02_Text.f k l0_3).bind fun t105 => (if t102.size + 1 + t103.size + 1 + t104.size + 1 + t105.size ≤ 9223372036854775807 then (if (l0_4.length : Int) > 0 then (if t102.size + 1 + t103.size + 1 + t104.size + 1 + t105.size + 1 ≤ 9223372036854775807 then ((ferruleref02_Text.f k l0_4).bind fun t106 => (if t102.size + 1 + t103.size + 1 + t104.size + 1 + t105.size + 1 + t106.size ≤ 9223372036854775807 then (some ((((((((t102 ++ (⟨#[46]⟩ : ByteArray)) ++ t103) ++ (⟨#[46]⟩ : ByteArray)) ++ t104) ++ (⟨#[45]⟩ : ByteArray)) ++ t105) ++ (⟨#[43]⟩ : ByteArray)) ++ t106)) else (none))) else (none)) else (some ((((((t102 ++ (⟨#[46]⟩ : ByteArray)) ++ t103) ++ (⟨#[46]⟩ : ByteArray)) ++ t104) ++ (⟨#[45]⟩ : ByteArray)) ++ t105))) else (none))) else (none)) else (if (l0_4.length : Int) > 0 then (if t102.size + 1 + t103.size + 1 + t104.size + 1 ≤ 9223372036854775807 then ((ferruleref02_Text.f k l0_4).bind fun t107 => (if t102.size + 1 + t103.size + 1 + t104.size + 1 + t107.size ≤ 9223372036854775807 then (some ((((((t102 ++ (⟨#[46]⟩ : ByteArray)) ++ t103) ++ (⟨#[46]⟩ : ByteArray)) ++ t104) ++ (⟨#[43]⟩ : ByteArray)) ++ t107)) else (none))) else (none)) else (some ((((t102 ++ (⟨#[46]⟩ : ByteArray)) ++ t103) ++ (⟨#[46]⟩ : ByteArray)) ++ t104)))) else (none))) else (none)) else (none))) else (none))
theorem ferruleref03_Text.mono : ∀ a0 a1 a2 a3 a4 k, LeO (ferruleref03_Text.f k a0 a1 a2 a3 a4) (ferruleref03_Text.f (k + 1) a0 a1 a2 a3 a4) := by
 intro a0 a1 a2 a3 a4 k
 unfold ferruleref03_Text.f
 repeat' first
   | (with_reducible exact ferruleref01_Text.mono _ _)
   | (with_reducible exact ferruleref02_Text.mono _ _)
   | (with_reducible exact LeO.refl _)
   | (with_reducible exact LeO.none _)
   | (with_reducible refine LeO.ite ?_ ?_)
   | (with_reducible refine LeO.bind ?_ (fun _ => ?_))
   | exact ferruleref01_Text.mono _ _
   | exact ferruleref02_Text.mono _ _
   | exact LeO.none _
   | refine LeO.ite ?_ ?_
   | refine LeO.bind ?_ (fun _ => ?_)
def ferruleref03_Text.T1 : Bool × List (List Nat × List Nat) := (true, [([], []), ([0], [0]), ([1], [1]), ([2], [2]), ([], []), ([4], [4]), ([5, 2], [5]), ([3, 6], [3, 6]), ([7], [7]), ([], []), ([9], [9]), ([10, 6], [10]), ([8, 11], [8, 11]), ([12, 11, 0, 1, 2, 3, 4, 5, 6, 7, 8, 9, 10, 11, 12], [12])])
def ferruleref03_Text.B1 : List Nat := [0, 1, 3, 7, 0, 16, 55, 127, 255, 0, 512, 1655, 4095, 8191]
theorem ferruleref03_Text.tab1 : rtab .any (opsOf Tryd.f46 1) = ferruleref03_Text.T1 := by kernel_rfl
theorem ferruleref03_Text.bits1 : waitsOk ferruleref03_Text.T1.2 ferruleref03_Text.B1 = true := by kernel_rfl
set_option maxHeartbeats 8000000 in
set_option maxRecDepth 100000 in
theorem ferruleref03_Text.calls (k : Nat) (a0_0 : Int) (a0_1 : Int) (a0_2 : Int) (A0_3 : Option Addr) (c0_3 : Nat) (l0_3 : List ByteArray) (A0_4 : Option Addr) (c0_4 : Nat) (l0_4 : List ByteArray) (r : ByteArray) (w : World) (hr0_3 : Kd.C Kd.string w A0_3 l0_3.length l0_3) (hc0_3 : l0_3.length ≤ c0_3) (hr0_4 : Kd.C Kd.string w A0_4 l0_4.length l0_4) (hc0_4 : l0_4.length ≤ c0_4) (h : ferruleref03_Text.f k a0_0 a0_1 a0_2 l0_3 l0_4 = some r) :
  Calls Tryd.prog 46 #[.agg #[.int .u64 a0_0, .int .u64 a0_1, .int .u64 a0_2, .slice A0_3 l0_3.length c0_3, .slice A0_4 l0_4.length c0_4]] w fun e w' => e = .returned (.string r) ∧ Below w.heap.size w w' := by
 have hu40 := Tryd.underlying40
 have HR0_3 := Aside0.mk hr0_3
 have HC0_3 := Aside0.mk hc0_3
 clear hr0_3 hc0_3
 have HR0_4 := Aside0.mk hr0_4
 have HC0_4 := Aside0.mk hc0_4
 clear hr0_4 hc0_4
 have HB := Aside0.mk (Below.refl w.heap.size w)
 have H : ((ferruleref01_Text.f k a0_0).bind fun t102 => (if t102.size + 1 ≤ 9223372036854775807 then ((ferruleref01_Text.f k a0_1).bind fun t103 => (if t102.size + 1 + t103.size ≤ 9223372036854775807 then (if t102.size + 1 + t103.size + 1 ≤ 9223372036854775807 then ((ferruleref01_Text.f k a0_2).bind fun t104 => (if t102.size + 1 + t103.size + 1 + t104.size ≤ 9223372036854775807 then (if (l0_3.length : Int) > 0 then (if t102.size + 1 + t103.size + 1 + t104.size + 1 ≤ 9223372036854775807 then ((ferruleref02_Text.f k l0_3).bind fun t105 => (if t102.size + 1 + t103.size + 1 + t104.size + 1 + t105.size ≤ 9223372036854775807 then (if (l0_4.length : Int) > 0 then (if t102.size + 1 + t103.size + 1 + t104.size + 1 + t105.size + 1 ≤ 9223372036854775807 then ((ferruleref02_Text.f k l0_4).bind fun t106 => (if t102.size + 1 + t103.size + 1 + t104.size + 1 + t105.size + 1 + t106.size ≤ 9223372036854775807 then (some ((((((((t102 ++ (⟨#[46]⟩ : ByteArray)) ++ t103) ++ (⟨#[46]⟩ : ByteArray)) ++ t104) ++ (⟨#[45]⟩ : ByteArray)) ++ t105) ++ (⟨#[43]⟩ : ByteArray)) ++ t106)) else (none))) else (none)) else (some ((((((t102 ++ (⟨#[46]⟩ : ByteArray)) ++ t103) ++ (⟨#[46]⟩ : ByteArray)) ++ t104) ++ (⟨#[45]⟩ : ByteArray)) ++ t105))) else (none))) else (none)) else (if (l0_4.length : Int) > 0 then (if t102.size + 1 + t103.size + 1 + t104.size + 1 ≤ 9223372036854775807 then ((ferruleref02_Text.f k l0_4).bind fun t107 => (if t102.size + 1 + t103.size + 1 + t104.size + 1 + t107.size ≤ 9223372036854775807 then (some ((((((t102 ++ (⟨#[46]⟩ : ByteArray)) ++ t103) ++ (⟨#[46]⟩ : ByteArray)) ++ t104) ++ (⟨#[43]⟩ : ByteArray)) ++ t107)) else (none))) else (none)) else (some ((((t102 ++ (⟨#[46]⟩ : ByteArray)) ++ t103) ++ (⟨#[46]⟩ : ByteArray)) ++ t104)))) else (none))) else (none)) else (none))) else (none))) = some r := h
 clear h
 replace H := Option.bind_eq_some_iff.mp H
 obtain ⟨t102, A20, H⟩ := H
 replace H : (if t102.size + 1 ≤ 9223372036854775807 then ((ferruleref01_Text.f k a0_1).bind fun t103 => (if t102.size + 1 + t103.size ≤ 9223372036854775807 then (if t102.size + 1 + t103.size + 1 ≤ 9223372036854775807 then ((ferruleref01_Text.f k a0_2).bind fun t104 => (if t102.size + 1 + t103.size + 1 + t104.size ≤ 9223372036854775807 then (if (l0_3.length : Int) > 0 then (if t102.size + 1 + t103.size + 1 + t104.size + 1 ≤ 9223372036854775807 then ((ferruleref02_Text.f k l0_3).bind fun t105 => (if t102.size + 1 + t103.size + 1 + t104.size + 1 + t105.size ≤ 9223372036854775807 then (if (l0_4.length : Int) > 0 then (if t102.size + 1 + t103.size + 1 + t104.size + 1 + t105.size + 1 ≤ 9223372036854775807 then ((ferruleref02_Text.f k l0_4).bind fun t106 => (if t102.size + 1 + t103.size + 1 + t104.size + 1 + t105.size + 1 + t106.size ≤ 9223372036854775807 then (some ((((((((t102 ++ (⟨#[46]⟩ : ByteArray)) ++ t103) ++ (⟨#[46]⟩ : ByteArray)) ++ t104) ++ (⟨#[45]⟩ : ByteArray)) ++ t105) ++ (⟨#[43]⟩ : ByteArray)) ++ t106)) else (none))) else (none)) else (some ((((((t102 ++ (⟨#[46]⟩ : ByteArray)) ++ t103) ++ (⟨#[46]⟩ : ByteArray)) ++ t104) ++ (⟨#[45]⟩ : ByteArray)) ++ t105))) else (none))) else (none)) else (if (l0_4.length : Int) > 0 then (if t102.size + 1 + t103.size + 1 + t104.size + 1 ≤ 9223372036854775807 then ((ferruleref02_Text.f k l0_4).bind fun t107 => (if t102.size + 1 + t103.size + 1 + t104.size + 1 + t107.size ≤ 9223372036854775807 then (some ((((((t102 ++ (⟨#[46]⟩ : ByteArray)) ++ t103) ++ (⟨#[46]⟩ : ByteArray)) ++ t104) ++ (⟨#[43]⟩ : ByteArray)) ++ t107)) else (none))) else (none)) else (some ((((t102 ++ (⟨#[46]⟩ : ByteArray)) ++ t103) ++ (⟨#[46]⟩ : ByteArray)) ++ t104)))) else (none))) else (none)) else (none))) else (none)) = some r := H
 have A2 := Aside0.mk A20
 clear A20
 by_cases c3 : t102.size + 1 ≤ 9223372036854775807
 ·rw [if_pos c3] at H
  have c3b0 := eq_true c3
  have c3b1 : decide (t102.size + 1 ≤ 9223372036854775807) = true := decide_eq_true c3
  try have c3b2 : (9223372036854775807 < t102.size + 1) = False := eq_false (Nat.not_lt.2 c3)
  replace H := Option.bind_eq_some_iff.mp H
  obtain ⟨t103, A40, H⟩ := H
  replace H : (if t102.size + 1 + t103.size ≤ 9223372036854775807 then (if t102.size + 1 + t103.size + 1 ≤ 9223372036854775807 then ((ferruleref01_Text.f k a0_2).bind fun t104 => (if t102.size + 1 + t103.size + 1 + t104.size ≤ 9223372036854775807 then (if (l0_3.length : Int) > 0 then (if t102.size + 1 + t103.size + 1 + t104.size + 1 ≤ 9223372036854775807 then ((ferruleref02_Text.f k l0_3).bind fun t105 => (if t102.size + 1 + t103.size + 1 + t104.size + 1 + t105.size ≤ 9223372036854775807 then (if (l0_4.length : Int) > 0 then (if t102.size + 1 + t103.size + 1 + t104.size + 1 + t105.size + 1 ≤ 9223372036854775807 then ((ferruleref02_Text.f k l0_4).bind fun t106 => (if t102.size + 1 + t103.size + 1 + t104.size + 1 + t105.size + 1 + t106.size ≤ 9223372036854775807 then (some ((((((((t102 ++ (⟨#[46]⟩ : ByteArray)) ++ t103) ++ (⟨#[46]⟩ : ByteArray)) ++ t104) ++ (⟨#[45]⟩ : ByteArray)) ++ t105) ++ (⟨#[43]⟩ : ByteArray)) ++ t106)) else (none))) else (none)) else (some ((((((t102 ++ (⟨#[46]⟩ : ByteArray)) ++ t103) ++ (⟨#[46]⟩ : ByteArray)) ++ t104) ++ (⟨#[45]⟩ : ByteArray)) ++ t105))) else (none))) else (none)) else (if (l0_4.length : Int) > 0 then (if t102.size + 1 + t103.size + 1 + t104.size + 1 ≤ 9223372036854775807 then ((ferruleref02_Text.f k l0_4).bind fun t107 => (if t102.size + 1 + t103.size + 1 + t104.size + 1 + t107.size ≤ 9223372036854775807 then (some ((((((t102 ++ (⟨#[46]⟩ : ByteArray)) ++ t103) ++ (⟨#[46]⟩ : ByteArray)) ++ t104) ++ (⟨#[43]⟩ : ByteArray)) ++ t107)) else (none))) else (none)) else (some ((((t102 ++ (⟨#[46]⟩ : ByteArray)) ++ t103) ++ (⟨#[46]⟩ : ByteArray)) ++ t104)))) else (none))) else (none)) else (none)) = some r := H
  have A4 := Aside0.mk A40
  clear A40
  by_cases c5 : t102.size + 1 + t103.size ≤ 9223372036854775807
  ·rw [if_pos c5] at H
   have c5b0 := eq_true c5
   have c5b1 : decide (t102.size + 1 + t103.size ≤ 9223372036854775807) = true := decide_eq_true c5
   try have c5b2 : (9223372036854775807 < t102.size + 1 + t103.size) = False := eq_false (Nat.not_lt.2 c5)
   by_cases c6 : t102.size + 1 + t103.size + 1 ≤ 9223372036854775807
   ·rw [if_pos c6] at H
    have c6b0 := eq_true c6
    have c6b1 : decide (t102.size + 1 + t103.size + 1 ≤ 9223372036854775807) = true := decide_eq_true c6
    try have c6b2 : (9223372036854775807 < t102.size + 1 + t103.size + 1) = False := eq_false (Nat.not_lt.2 c6)
    replace H := Option.bind_eq_some_iff.mp H
    obtain ⟨t104, A70, H⟩ := H
    replace H : (if t102.size + 1 + t103.size + 1 + t104.size ≤ 9223372036854775807 then (if (l0_3.length : Int) > 0 then (if t102.size + 1 + t103.size + 1 + t104.size + 1 ≤ 9223372036854775807 then ((ferruleref02_Text.f k l0_3).bind fun t105 => (if t102.size + 1 + t103.size + 1 + t104.size + 1 + t105.size ≤ 9223372036854775807 then (if (l0_4.length : Int) > 0 then (if t102.size + 1 + t103.size + 1 + t104.size + 1 + t105.size + 1 ≤ 9223372036854775807 then ((ferruleref02_Text.f k l0_4).bind fun t106 => (if t102.size + 1 + t103.size + 1 + t104.size + 1 + t105.size + 1 + t106.size ≤ 9223372036854775807 then (some ((((((((t102 ++ (⟨#[46]⟩ : ByteArray)) ++ t103) ++ (⟨#[46]⟩ : ByteArray)) ++ t104) ++ (⟨#[45]⟩ : ByteArray)) ++ t105) ++ (⟨#[43]⟩ : ByteArray)) ++ t106)) else (none))) else (none)) else (some ((((((t102 ++ (⟨#[46]⟩ : ByteArray)) ++ t103) ++ (⟨#[46]⟩ : ByteArray)) ++ t104) ++ (⟨#[45]⟩ : ByteArray)) ++ t105))) else (none))) else (none)) else (if (l0_4.length : Int) > 0 then (if t102.size + 1 + t103.size + 1 + t104.size + 1 ≤ 9223372036854775807 then ((ferruleref02_Text.f k l0_4).bind fun t107 => (if t102.size + 1 + t103.size + 1 + t104.size + 1 + t107.size ≤ 9223372036854775807 then (some ((((((t102 ++ (⟨#[46]⟩ : ByteArray)) ++ t103) ++ (⟨#[46]⟩ : ByteArray)) ++ t104) ++ (⟨#[43]⟩ : ByteArray)) ++ t107)) else (none))) else (none)) else (some ((((t102 ++ (⟨#[46]⟩ : ByteArray)) ++ t103) ++ (⟨#[46]⟩ : ByteArray)) ++ t104)))) else (none)) = some r := H
    have A7 := Aside0.mk A70
    clear A70
    by_cases c8 : t102.size + 1 + t103.size + 1 + t104.size ≤ 9223372036854775807
    ·rw [if_pos c8] at H
     have c8b0 := eq_true c8
     have c8b1 : decide (t102.size + 1 + t103.size + 1 + t104.size ≤ 9223372036854775807) = true := decide_eq_true c8
     try have c8b2 : (9223372036854775807 < t102.size + 1 + t103.size + 1 + t104.size) = False := eq_false (Nat.not_lt.2 c8)
     by_cases c9 : (l0_3.length : Int) > 0
     ·rw [if_pos c9] at H
      have c9b0 : decide (0 < (l0_3.length : Int)) = true := decide_eq_true c9
      have c9b1 : decide (0 < l0_3.length) = true := decide_eq_true (by omega)
      clear c9
      by_cases c10 : t102.size + 1 + t103.size + 1 + t104.size + 1 ≤ 9223372036854775807
      ·rw [if_pos c10] at H
       have c10b0 := eq_true c10
       have c10b1 : decide (t102.size + 1 + t103.size + 1 + t104.size + 1 ≤ 9223372036854775807) = true := decide_eq_true c10
       try have c10b2 : (9223372036854775807 < t102.size + 1 + t103.size + 1 + t104.size + 1) = False := eq_false (Nat.not_lt.2 c10)
       replace H := Option.bind_eq_some_iff.mp H
       obtain ⟨t105, A110, H⟩ := H
       replace H : (if t102.size + 1 + t103.size + 1 + t104.size + 1 + t105.size ≤ 9223372036854775807 then (if (l0_4.length : Int) > 0 then (if t102.size + 1 + t103.size + 1 + t104.size + 1 + t105.size + 1 ≤ 9223372036854775807 then ((ferruleref02_Text.f k l0_4).bind fun t106 => (if t102.size + 1 + t103.size + 1 + t104.size + 1 + t105.size + 1 + t106.size ≤ 9223372036854775807 then (some ((((((((t102 ++ (⟨#[46]⟩ : ByteArray)) ++ t103) ++ (⟨#[46]⟩ : ByteArray)) ++ t104) ++ (⟨#[45]⟩ : ByteArray)) ++ t105) ++ (⟨#[43]⟩ : ByteArray)) ++ t106)) else (none))) else (none)) else (some ((((((t102 ++ (⟨#[46]⟩ : ByteArray)) ++ t103) ++ (⟨#[46]⟩ : ByteArray)) ++ t104) ++ (⟨#[45]⟩ : ByteArray)) ++ t105))) else (none)) = some r := H
       have A11 := Aside0.mk A110
       clear A110
       by_cases c12 : t102.size + 1 + t103.size + 1 + t104.size + 1 + t105.size ≤ 9223372036854775807
       ·rw [if_pos c12] at H
        have c12b0 := eq_true c12
        have c12b1 : decide (t102.size + 1 + t103.size + 1 + t104.size + 1 + t105.size ≤ 9223372036854775807) = true := decide_eq_true c12
        try have c12b2 : (9223372036854775807 < t102.size + 1 + t103.size + 1 + t104.size + 1 + t105.size) = False := eq_false (Nat.not_lt.2 c12)
        by_cases c13 : (l0_4.length : Int) > 0
        ·rw [if_pos c13] at H
         have c13b0 : decide (0 < (l0_4.length : Int)) = true := decide_eq_true c13
         have c13b1 : decide (0 < l0_4.length) = true := decide_eq_true (by omega)
         clear c13
         by_cases c14 : t102.size + 1 + t103.size + 1 + t104.size + 1 + t105.size + 1 ≤ 9223372036854775807
         ·rw [if_pos c14] at H
          have c14b0 := eq_true c14
          have c14b1 : decide (t102.size + 1 + t103.size + 1 + t104.size + 1 + t105.size + 1 ≤ 9223372036854775807) = true := decide_eq_true c14
          try have c14b2 : (9223372036854775807 < t102.size + 1 + t103.size + 1 + t104.size + 1 + t105.size + 1) = False := eq_false (Nat.not_lt.2 c14)
          replace H := Option.bind_eq_some_iff.mp H
          obtain ⟨t106, A150, H⟩ := H
          replace H : (if t102.size + 1 + t103.size + 1 + t104.size + 1 + t105.size + 1 + t106.size ≤ 9223372036854775807 then (some ((((((((t102 ++ (⟨#[46]⟩ : ByteArray)) ++ t103) ++ (⟨#[46]⟩ : ByteArray)) ++ t104) ++ (⟨#[45]⟩ : ByteArray)) ++ t105) ++ (⟨#[43]⟩ : ByteArray)) ++ t106)) else (none)) = some r := H
          have A15 := Aside0.mk A150
          clear A150
          by_cases c16 : t102.size + 1 + t103.size + 1 + t104.size + 1 + t105.size + 1 + t106.size ≤ 9223372036854775807
          ·rw [if_pos c16] at H
           have c16b0 := eq_true c16
           have c16b1 : decide (t102.size + 1 + t103.size + 1 + t104.size + 1 + t105.size + 1 + t106.size ≤ 9223372036854775807) = true := decide_eq_true c16
           try have c16b2 : (9223372036854775807 < t102.size + 1 + t103.size + 1 + t104.size + 1 + t105.size + 1 + t106.size) = False := eq_false (Nat.not_lt.2 c16)
           obtain rfl := Option.some.inj H
           go_enter Tryd.func46, Tryd.ntmps46
           try go_wp2_with (first | ((with_reducible refine gate_dst (N := 1) rfl ?_); refine box_event ?hg (N := 1) ?hd (cs := #[.int .u64 a0_0, .int .u64 a0_1, .int .u64 a0_2, .slice A0_3 l0_3.length c0_3, .slice A0_4 l0_4.length c0_4]) (t := 40) ?hr ?_; (case hd => rfl); (case hg => rfl); (case hr => first | (go_simp; done) | (go_simp; rfl)); intro gb101 hg w17 hbox hb; have BK101 := Aside0.mk hbox; have GW101 := Aside0.mk ((by rw [hg]; exact (below_size bB) : w.heap.size ≤ gb101)); have GE101 := Aside0.mk ((by rw [hg]; exact (below_size bB) : w.heap.size ≤ gb101)); replace HB := aB HB hb; clear hb hbox hg))
           replace BK101 := Aside0.mk (blk_drew BK101.out)
           replace HB := Aside0.mk (below_drew1 HB.out)
           refine start_ (n := 14) (S := fun w' => w'.cell? ⟨gb101, 0, none⟩ = some (.int .u64 a0_0) ∧ w'.cell? ⟨gb101, 1, none⟩ = some (.int .u64 a0_1) ∧ w'.cell? ⟨gb101, 2, none⟩ = some (.int .u64 a0_2) ∧ w'.cell? ⟨gb101, 3, none⟩ = some (.slice A0_3 l0_3.length c0_3) ∧ w'.cell? ⟨gb101, 4, none⟩ = some (.slice A0_4 l0_4.length c0_4)) (ds := []) #[false, false, false, false, false, false, false, false, false, false, false, false, false, false] (by kernel_rfl) rfl rfl ⟨(blk_cell BK101.out 0).trans rfl, (blk_cell BK101.out 1).trans rfl, (blk_cell BK101.out 2).trans rfl, (blk_cell BK101.out 3).trans rfl, (blk_cell BK101.out 4).trans rfl⟩ (fun hHeld => ?_); refine with_tabW ferruleref03_Text.tab1 ferruleref03_Text.bits1 (fun HT_ HW_ => ?_)
           generalize w17.drew = w18 at BK101 HB hHeld ⊢
           refine pV 0 4 rfl rfl ?_
           refine pV 4 8 rfl rfl ?_
           refine pV 9 13 rfl rfl ?_
           refine tV 1 5 rfl rfl ?_
           refine tV 5 9 rfl rfl ?_
           refine tV 10 14 rfl rfl ?_
           refine one_ (i := 2) (N := some 6) #[true, true, true, false, true, true, false, false, false, true, true, false, false, false] rfl rfl (one_of HT_.out (by kernel_rfl)) (by decide) (fun K hK => ?_)
           refine goes_ Tryd.func68 (by kernel_rfl) rfl #[.int .u64 a0_0] (by rfl) rfl rfl bM ?_
           with_reducible refine (ferruleref01_Text.calls k a0_0 t102 _ A2.out).mono ?_
           rintro e w19 ⟨rfl, hb⟩
           refine ⟨_, rfl, ?_⟩
           replace BK101 := aK BK101 hb
           replace HB := aB HB hb
           (try clear hb)
           (try clear hb2)
           (try clear hk)
           (try clear hi)
           refine hK.out _ _ ⟨(blk_cell BK101.out 0).trans rfl, (blk_cell BK101.out 1).trans rfl, (blk_cell BK101.out 2).trans rfl, (blk_cell BK101.out 3).trans rfl, (blk_cell BK101.out 4).trans rfl⟩ (fun hHeld => ?_)
           clear hK K
           refine norm_ (a' := ?_) ?_ ?_
           rotate_left
           ·show Act.put _ (some 6) _ = _
            simp only [Act.put, List.setIfInBounds_toArray, List.set_cons_zero, List.set_cons_succ, i64_w, i32_w]
            rfl
           refine pV 3 7 rfl rfl ?_
           refine one_ (i := 6) (N := some 10) #[true, true, true, true, true, true, true, false, false, true, true, false, false, false] rfl rfl (one_of HT_.out (by kernel_rfl)) (by decide) (fun K hK => ?_)
           refine goes_ Tryd.func68 (by kernel_rfl) rfl #[.int .u64 a0_1] (by rfl) rfl rfl bM ?_
           with_reducible refine (ferruleref01_Text.calls k a0_1 t103 _ A4.out).mono ?_
           rintro e w20 ⟨rfl, hb⟩
           refine ⟨_, rfl, ?_⟩
           replace BK101 := aK BK101 hb
           replace HB := aB HB hb
           (try clear hb)
           (try clear hb2)
           (try clear hk)
           (try clear hi)
           refine hK.out _ _ ⟨(blk_cell BK101.out 0).trans rfl, (blk_cell BK101.out 1).trans rfl, (blk_cell BK101.out 2).trans rfl, (blk_cell BK101.out 3).trans rfl, (blk_cell BK101.out 4).trans rfl⟩ (fun hHeld => ?_)
           clear hK K
           refine norm_ (a' := ?_) ?_ ?_
           rotate_left
           ·show Act.put _ (some 10) _ = _
            simp only [Act.put, List.setIfInBounds_toArray, List.set_cons_zero, List.set_cons_succ, i64_w, i32_w]
            rfl
           refine pV 7 11 rfl rfl ?_
           refine pV 8 12 rfl rfl ?_
           refine one_ (i := 11) (N := some 15) #[true, true, true, true, true, true, true, true, true, true, true, true, false, false] rfl rfl (one_of HT_.out (by kernel_rfl)) (by decide) (fun K hK => ?_)
           refine goes_ Tryd.func68 (by kernel_rfl) rfl #[.int .u64 a0_2] (by rfl) rfl rfl bM ?_
           with_reducible refine (ferruleref01_Text.calls k a0_2 t104 _ A7.out).mono ?_
           rintro e w21 ⟨rfl, hb⟩
           refine ⟨_, rfl, ?_⟩
           replace BK101 := aK BK101 hb
           replace HB := aB HB hb
           (try clear hb)
           (try clear hb2)
           (try clear hk)
           (try clear hi)
           refine hK.out _ _ ⟨(blk_cell BK101.out 0).trans rfl, (blk_cell BK101.out 1).trans rfl, (blk_cell BK101.out 2).trans rfl, (blk_cell BK101.out 3).trans rfl, (blk_cell BK101.out 4).trans rfl⟩ (fun hHeld => ?_)
           clear hK K
           refine norm_ (a' := ?_) ?_ ?_
           rotate_left
           ·show Act.put _ (some 15) _ = _
            simp only [Act.put, List.setIfInBounds_toArray, List.set_cons_zero, List.set_cons_succ, i64_w, i32_w]
            rfl
           refine pV 12 16 rfl rfl ?_
           refine pV 13 3 rfl rfl ?_
           refine done_ (done_of HT_.out (by kernel_rfl)) ?_
           have hcz22_0 : w21.cell? ⟨gb101, 0, none⟩ = some (.int .u64 a0_0) := (blk_cell BK101.out 0).trans rfl
           have hcz22_1 : w21.cell? ⟨gb101, 1, none⟩ = some (.int .u64 a0_1) := (blk_cell BK101.out 1).trans rfl
           have hcz22_2 : w21.cell? ⟨gb101, 2, none⟩ = some (.int .u64 a0_2) := (blk_cell BK101.out 2).trans rfl
           have hcz22_3 : w21.cell? ⟨gb101, 3, none⟩ = some (.slice A0_3 l0_3.length c0_3) := (blk_cell BK101.out 3).trans rfl
           have hcz22_4 : w21.cell? ⟨gb101, 4, none⟩ = some (.slice A0_4 l0_4.length c0_4) := (blk_cell BK101.out 4).trans rfl
           have hfz22_0 := blk_frozen BK101.out 0
           have hfz22_1 := blk_frozen BK101.out 1
           have hfz22_2 := blk_frozen BK101.out 2
           have hfz22_3 := blk_frozen BK101.out 3
           have hfz22_4 := blk_frozen BK101.out 4
           try go_wp2_with (first | ((with_reducible refine gate_callee (f := 41) rfl ?_); refine goesL_ (some 25) rfl rfl Tryd.func41 (by kernel_rfl) rfl #[.slice A0_3 l0_3.length c0_3] rfl bM ?_; (with_reducible refine (ferruleref02_Text.calls k _ _ l0_3 t105 _ ?side1 ?side2 A11.out).mono ?_); (case side1 => exact sW (Kd.C_below HR0_3.out HB.out)); (case side2 => exact HC0_3.out); rintro e w' ⟨rfl, ⟨nd, rfl⟩⟩; refine ⟨_, rfl, ?_⟩) | ((with_reducible refine gate_callee (f := 41) rfl ?_); refine goesL_ (some 35) rfl rfl Tryd.func41 (by kernel_rfl) rfl #[.slice A0_4 l0_4.length c0_4] rfl bM ?_; (with_reducible refine (ferruleref02_Text.calls k _ _ l0_4 t106 _ ?side1 ?side2 A15.out).mono ?_); (case side1 => exact sW (Kd.C_below HR0_4.out bB)); (case side2 => exact HC0_4.out); rintro e w' ⟨rfl, ⟨nd, rfl⟩⟩; refine ⟨_, rfl, ?_⟩))
           go_ret
           exact ⟨by first | rfl | (simp [errW_none, errW_some] <;> rfl) | (simp [*, errW_none, errW_some] <;> rfl), bB⟩
          ·rw [if_neg c16] at H
           exact absurd H (by simp)
         ·rw [if_neg c14] at H
          exact absurd H (by simp)
        ·rw [if_neg c13] at H
         have c13b0 : decide (0 < (l0_4.length : Int)) = false := decide_eq_false c13
         have c13b1 : decide (0 < l0_4.length) = false := decide_eq_false (by omega)
         clear c13
         obtain rfl := Option.some.inj H
         go_enter Tryd.func46, Tryd.ntmps46
         try go_wp2_with (first | ((with_reducible refine gate_dst (N := 1) rfl ?_); refine box_event ?hg (N := 1) ?hd (cs := #[.int .u64 a0_0, .int .u64 a0_1, .int .u64 a0_2, .slice A0_3 l0_3.length c0_3, .slice A0_4 l0_4.length c0_4]) (t := 40) ?hr ?_; (case hd => rfl); (case hg => rfl); (case hr => first | (go_simp; done) | (go_simp; rfl)); intro gb101 hg w23 hbox hb; have BK101 := Aside0.mk hbox; have GW101 := Aside0.mk ((by rw [hg]; exact (below_size bB) : w.heap.size ≤ gb101)); have GE101 := Aside0.mk ((by rw [hg]; exact (below_size bB) : w.heap.size ≤ gb101)); replace HB := aB HB hb; clear hb hbox hg))
         replace BK101 := Aside0.mk (blk_drew BK101.out)
         replace HB := Aside0.mk (below_drew1 HB.out)
         refine start_ (n := 14) (S := fun w' => w'.cell? ⟨gb101, 0, none⟩ = some (.int .u64 a0_0) ∧ w'.cell? ⟨gb101, 1, none⟩ = some (.int .u64 a0_1) ∧ w'.cell? ⟨gb101, 2, none⟩ = some (.int .u64 a0_2) ∧ w'.cell? ⟨gb101, 3, none⟩ = some (.slice A0_3 l0_3.length c0_3) ∧ w'.cell? ⟨gb101, 4, none⟩ = some (.slice A0_4 l0_4.length c0_4)) (ds := []) #[false, false, false, false, false, false, false, false, false, false, false, false, false, false] (by kernel_rfl) rfl rfl ⟨(blk_cell BK101.out 0).trans rfl, (blk_cell BK101.out 1).trans rfl, (blk_cell BK101.out 2).trans rfl, (blk_cell BK101.out 3).trans rfl, (blk_cell BK101.out 4).trans rfl⟩ (fun hHeld => ?_); refine with_tabW ferruleref03_Text.tab1 ferruleref03_Text.bits1 (fun HT_ HW_ => ?_)
         generalize w23.drew = w24 at BK101 HB hHeld ⊢
         refine pV 0 4 rfl rfl ?_
         refine pV 4 8 rfl rfl ?_
         refine pV 9 13 rfl rfl ?_
         refine tV 1 5 rfl rfl ?_
         refine tV 5 9 rfl rfl ?_
         refine tV 10 14 rfl rfl ?_
         refine one_ (i := 2) (N := some 6) #[true, true, true, false, true, true, false, false, false, true, true, false, false, false] rfl rfl (one_of HT_.out (by kernel_rfl)) (by decide) (fun K hK => ?_)
         refine goes_ Tryd.func68 (by kernel_rfl) rfl #[.int .u64 a0_0] (by rfl) rfl rfl bM ?_
         with_reducible refine (ferruleref01_Text.calls k a0_0 t102 _ A2.out).mono ?_
         rintro e w25 ⟨rfl, hb⟩
         refine ⟨_, rfl, ?_⟩
         replace BK101 := aK BK101 hb
         replace HB := aB HB hb
         (try clear hb)
         (try clear hb2)
         (try clear hk)
         (try clear hi)
         refine hK.out _ _ ⟨(blk_cell BK101.out 0).trans rfl, (blk_cell BK101.out 1).trans rfl, (blk_cell BK101.out 2).trans rfl, (blk_cell BK101.out 3).trans rfl, (blk_cell BK101.out 4).trans rfl⟩ (fun hHeld => ?_)
         clear hK K
         refine norm_ (a' := ?_) ?_ ?_
         rotate_left
         ·show Act.put _ (some 6) _ = _
          simp only [Act.put, List.setIfInBounds_toArray, List.set_cons_zero, List.set_cons_succ, i64_w, i32_w]
          rfl
         refine pV 3 7 rfl rfl ?_
         refine one_ (i := 6) (N := some 10) #[true, true, true, true, true, true, true, false, false, true, true, false, false, false] rfl rfl (one_of HT_.out (by kernel_rfl)) (by decide) (fun K hK => ?_)
         refine goes_ Tryd.func68 (by kernel_rfl) rfl #[.int .u64 a0_1] (by rfl) rfl rfl bM ?_
         with_reducible refine (ferruleref01_Text.calls k a0_1 t103 _ A4.out).mono ?_
         rintro e w26 ⟨rfl, hb⟩
         refine ⟨_, rfl, ?_⟩
         replace BK101 := aK BK101 hb
         replace HB := aB HB hb
         (try clear hb)
         (try clear hb2)
         (try clear hk)
         (try clear hi)
         refine hK.out _ _ ⟨(blk_cell BK101.out 0).trans rfl, (blk_cell BK101.out 1).trans rfl, (blk_cell BK101.out 2).trans rfl, (blk_cell BK101.out 3).trans rfl, (blk_cell BK101.out 4).trans rfl⟩ (fun hHeld => ?_)
         clear hK K
         refine norm_ (a' := ?_) ?_ ?_
         rotate_left
         ·show Act.put _ (some 10) _ = _
          simp only [Act.put, List.setIfInBounds_toArray, List.set_cons_zero, List.set_cons_succ, i64_w, i32_w]
          rfl
         refine pV 7 11 rfl rfl ?_
         refine pV 8 12 rfl rfl ?_
         refine one_ (i := 11) (N := some 15) #[true, true, true, true, true, true, true, true, true, true, true, true, false, false] rfl rfl (one_of HT_.out (by kernel_rfl)) (by decide) (fun K hK => ?_)
         refine goes_ Tryd.func68 (by kernel_rfl) rfl #[.int .u64 a0_2] (by rfl) rfl rfl bM ?_
         with_reducible refine (ferruleref01_Text.calls k a0_2 t104 _ A7.out).mono ?_
         rintro e w27 ⟨rfl, hb⟩
         refine ⟨_, rfl, ?_⟩
         replace BK101 := aK BK101 hb
         replace HB := aB HB hb
         (try clear hb)
         (try clear hb2)
         (try clear hk)
         (try clear hi)
         refine hK.out _ _ ⟨(blk_cell BK101.out 0).trans rfl, (blk_cell BK101.out 1).trans rfl, (blk_cell BK101.out 2).trans rfl, (blk_cell BK101.out 3).trans rfl, (blk_cell BK101.out 4).trans rfl⟩ (fun hHeld => ?_)
         clear hK K
         refine norm_ (a' := ?_) ?_ ?_
         rotate_left
         ·show Act.put _ (some 15) _ = _
          simp only [Act.put, List.setIfInBounds_toArray, List.set_cons_zero, List.set_cons_succ, i64_w, i32_w]
          rfl
         refine pV 12 16 rfl rfl ?_
         refine pV 13 3 rfl rfl ?_
         refine done_ (done_of HT_.out (by kernel_rfl)) ?_
         have hcz28_0 : w27.cell? ⟨gb101, 0, none⟩ = some (.int .u64 a0_0) := (blk_cell BK101.out 0).trans rfl
         have hcz28_1 : w27.cell? ⟨gb101, 1, none⟩ = some (.int .u64 a0_1) := (blk_cell BK101.out 1).trans rfl
         have hcz28_2 : w27.cell? ⟨gb101, 2, none⟩ = some (.int .u64 a0_2) := (blk_cell BK101.out 2).trans rfl
         have hcz28_3 : w27.cell? ⟨gb101, 3, none⟩ = some (.slice A0_3 l0_3.length c0_3) := (blk_cell BK101.out 3).trans rfl
         have hcz28_4 : w27.cell? ⟨gb101, 4, none⟩ = some (.slice A0_4 l0_4.length c0_4) := (blk_cell BK101.out 4).trans rfl
         have hfz28_0 := blk_frozen BK101.out 0
         have hfz28_1 := blk_frozen BK101.out 1
         have hfz28_2 := blk_frozen BK101.out 2
         have hfz28_3 := blk_frozen BK101.out 3
         have hfz28_4 := blk_frozen BK101.out 4
         try go_wp2_with (first | ((with_reducible refine gate_callee (f := 41) rfl ?_); refine goesL_ (some 25) rfl rfl Tryd.func41 (by kernel_rfl) rfl #[.slice A0_3 l0_3.length c0_3] rfl bM ?_; (with_reducible refine (ferruleref02_Text.calls k _ _ l0_3 t105 _ ?side1 ?side2 A11.out).mono ?_); (case side1 => exact sW (Kd.C_below HR0_3.out HB.out)); (case side2 => exact HC0_3.out); rintro e w' ⟨rfl, ⟨nd, rfl⟩⟩; refine ⟨_, rfl, ?_⟩))
         go_ret
         exact ⟨by first | rfl | (simp [errW_none, errW_some] <;> rfl) | (simp [*, errW_none, errW_some] <;> rfl), bB⟩
       ·rw [if_neg c12] at H
        exact absurd H (by simp)
      ·rw [if_neg c10] at H
       exact absurd H (by simp)
     ·rw [if_neg c9] at H
      have c9b0 : decide (0 < (l0_3.length : Int)) = false := decide_eq_false c9
      have c9b1 : decide (0 < l0_3.length) = false := decide_eq_false (by omega)
      clear c9
      by_cases c29 : (l0_4.length : Int) > 0
      ·rw [if_pos c29] at H
       have c29b0 : decide (0 < (l0_4.length : Int)) = true := decide_eq_true c29
       have c29b1 : decide (0 < l0_4.length) = true := decide_eq_true (by omega)
       clear c29
       by_cases c30 : t102.size + 1 + t103.size + 1 + t104.size + 1 ≤ 9223372036854775807
       ·rw [if_pos c30] at H
        have c30b0 := eq_true c30
        have c30b1 : decide (t102.size + 1 + t103.size + 1 + t104.size + 1 ≤ 9223372036854775807) = true := decide_eq_true c30
        try have c30b2 : (9223372036854775807 < t102.size + 1 + t103.size + 1 + t104.size + 1) = False := eq_false (Nat.not_lt.2 c30)
        replace H := Option.bind_eq_some_iff.mp H
        obtain ⟨t107, A310, H⟩ := H
        replace H : (if t102.size + 1 + t103.size + 1 + t104.size + 1 + t107.size ≤ 9223372036854775807 then (some ((((((t102 ++ (⟨#[46]⟩ : ByteArray)) ++ t103) ++ (⟨#[46]⟩ : ByteArray)) ++ t104) ++ (⟨#[43]⟩ : ByteArray)) ++ t107)) else (none)) = some r := H
        have A31 := Aside0.mk A310
        clear A310
        by_cases c32 : t102.size + 1 + t103.size + 1 + t104.size + 1 + t107.size ≤ 9223372036854775807
        ·rw [if_pos c32] at H
         have c32b0 := eq_true c32
         have c32b1 : decide (t102.size + 1 + t103.size + 1 + t104.size + 1 + t107.size ≤ 9223372036854775807) = true := decide_eq_true c32
         try have c32b2 : (9223372036854775807 < t102.size + 1 + t103.size + 1 + t104.size + 1 + t107.size) = False := eq_false (Nat.not_lt.2 c32)
         obtain rfl := Option.some.inj H
         go_enter Tryd.func46, Tryd.ntmps46
         try go_wp2_with (first | ((with_reducible refine gate_dst (N := 1) rfl ?_); refine box_event ?hg (N := 1) ?hd (cs := #[.int .u64 a0_0, .int .u64 a0_1, .int .u64 a0_2, .slice A0_3 l0_3.length c0_3, .slice A0_4 l0_4.length c0_4]) (t := 40) ?hr ?_; (case hd => rfl); (case hg => rfl); (case hr => first | (go_simp; done) | (go_simp; rfl)); intro gb101 hg w33 hbox hb; have BK101 := Aside0.mk hbox; have GW101 := Aside0.mk ((by rw [hg]; exact (below_size bB) : w.heap.size ≤ gb101)); have GE101 := Aside0.mk ((by rw [hg]; exact (below_size bB) : w.heap.size ≤ gb101)); replace HB := aB HB hb; clear hb hbox hg))
         replace BK101 := Aside0.mk (blk_drew BK101.out)
         replace HB := Aside0.mk (below_drew1 HB.out)
         refine start_ (n := 14) (S := fun w' => w'.cell? ⟨gb101, 0, none⟩ = some (.int .u64 a0_0) ∧ w'.cell? ⟨gb101, 1, none⟩ = some (.int .u64 a0_1) ∧ w'.cell? ⟨gb101, 2, none⟩ = some (.int .u64 a0_2) ∧ w'.cell? ⟨gb101, 3, none⟩ = some (.slice A0_3 l0_3.length c0_3) ∧ w'.cell? ⟨gb101, 4, none⟩ = some (.slice A0_4 l0_4.length c0_4)) (ds := []) #[false, false, false, false, false, false, false, false, false, false, false, false, false, false] (by kernel_rfl) rfl rfl ⟨(blk_cell BK101.out 0).trans rfl, (blk_cell BK101.out 1).trans rfl, (blk_cell BK101.out 2).trans rfl, (blk_cell BK101.out 3).trans rfl, (blk_cell BK101.out 4).trans rfl⟩ (fun hHeld => ?_); refine with_tabW ferruleref03_Text.tab1 ferruleref03_Text.bits1 (fun HT_ HW_ => ?_)
         generalize w33.drew = w34 at BK101 HB hHeld ⊢
         refine pV 0 4 rfl rfl ?_
         refine pV 4 8 rfl rfl ?_
         refine pV 9 13 rfl rfl ?_
         refine tV 1 5 rfl rfl ?_
         refine tV 5 9 rfl rfl ?_
         refine tV 10 14 rfl rfl ?_
         refine one_ (i := 2) (N := some 6) #[true, true, true, false, true, true, false, false, false, true, true, false, false, false] rfl rfl (one_of HT_.out (by kernel_rfl)) (by decide) (fun K hK => ?_)
         refine goes_ Tryd.func68 (by kernel_rfl) rfl #[.int .u64 a0_0] (by rfl) rfl rfl bM ?_
         with_reducible refine (ferruleref01_Text.calls k a0_0 t102 _ A2.out).mono ?_
         rintro e w35 ⟨rfl, hb⟩
         refine ⟨_, rfl, ?_⟩
         replace BK101 := aK BK101 hb
         replace HB := aB HB hb
         (try clear hb)
         (try clear hb2)
         (try clear hk)
         (try clear hi)
         refine hK.out _ _ ⟨(blk_cell BK101.out 0).trans rfl, (blk_cell BK101.out 1).trans rfl, (blk_cell BK101.out 2).trans rfl, (blk_cell BK101.out 3).trans rfl, (blk_cell BK101.out 4).trans rfl⟩ (fun hHeld => ?_)
         clear hK K
         refine norm_ (a' := ?_) ?_ ?_
         rotate_left
         ·show Act.put _ (some 6) _ = _
          simp only [Act.put, List.setIfInBounds_toArray, List.set_cons_zero, List.set_cons_succ, i64_w, i32_w]
          rfl
         refine pV 3 7 rfl rfl ?_
         refine one_ (i := 6) (N := some 10) #[true, true, true, true, true, true, true, false, false, true, true, false, false, false] rfl rfl (one_of HT_.out (by kernel_rfl)) (by decide) (fun K hK => ?_)
         refine goes_ Tryd.func68 (by kernel_rfl) rfl #[.int .u64 a0_1] (by rfl) rfl rfl bM ?_
         with_reducible refine (ferruleref01_Text.calls k a0_1 t103 _ A4.out).mono ?_
         rintro e w36 ⟨rfl, hb⟩
         refine ⟨_, rfl, ?_⟩
         replace BK101 := aK BK101 hb
         replace HB := aB HB hb
         (try clear hb)
         (try clear hb2)
         (try clear hk)
         (try clear hi)
         refine hK.out _ _ ⟨(blk_cell BK101.out 0).trans rfl, (blk_cell BK101.out 1).trans rfl, (blk_cell BK101.out 2).trans rfl, (blk_cell BK101.out 3).trans rfl, (blk_cell BK101.out 4).trans rfl⟩ (fun hHeld => ?_)
         clear hK K
         refine norm_ (a' := ?_) ?_ ?_
         rotate_left
         ·show Act.put _ (some 10) _ = _
          simp only [Act.put, List.setIfInBounds_toArray, List.set_cons_zero, List.set_cons_succ, i64_w, i32_w]
          rfl
         refine pV 7 11 rfl rfl ?_
         refine pV 8 12 rfl rfl ?_
         refine one_ (i := 11) (N := some 15) #[true, true, true, true, true, true, true, true, true, true, true, true, false, false] rfl rfl (one_of HT_.out (by kernel_rfl)) (by decide) (fun K hK => ?_)
         refine goes_ Tryd.func68 (by kernel_rfl) rfl #[.int .u64 a0_2] (by rfl) rfl rfl bM ?_
         with_reducible refine (ferruleref01_Text.calls k a0_2 t104 _ A7.out).mono ?_
         rintro e w37 ⟨rfl, hb⟩
         refine ⟨_, rfl, ?_⟩
         replace BK101 := aK BK101 hb
         replace HB := aB HB hb
         (try clear hb)
         (try clear hb2)
         (try clear hk)
         (try clear hi)
         refine hK.out _ _ ⟨(blk_cell BK101.out 0).trans rfl, (blk_cell BK101.out 1).trans rfl, (blk_cell BK101.out 2).trans rfl, (blk_cell BK101.out 3).trans rfl, (blk_cell BK101.out 4).trans rfl⟩ (fun hHeld => ?_)
         clear hK K
         refine norm_ (a' := ?_) ?_ ?_
         rotate_left
         ·show Act.put _ (some 15) _ = _
          simp only [Act.put, List.setIfInBounds_toArray, List.set_cons_zero, List.set_cons_succ, i64_w, i32_w]
          rfl
         refine pV 12 16 rfl rfl ?_
         refine pV 13 3 rfl rfl ?_
         refine done_ (done_of HT_.out (by kernel_rfl)) ?_
         have hcz38_0 : w37.cell? ⟨gb101, 0, none⟩ = some (.int .u64 a0_0) := (blk_cell BK101.out 0).trans rfl
         have hcz38_1 : w37.cell? ⟨gb101, 1, none⟩ = some (.int .u64 a0_1) := (blk_cell BK101.out 1).trans rfl
         have hcz38_2 : w37.cell? ⟨gb101, 2, none⟩ = some (.int .u64 a0_2) := (blk_cell BK101.out 2).trans rfl
         have hcz38_3 : w37.cell? ⟨gb101, 3, none⟩ = some (.slice A0_3 l0_3.length c0_3) := (blk_cell BK101.out 3).trans rfl
         have hcz38_4 : w37.cell? ⟨gb101, 4, none⟩ = some (.slice A0_4 l0_4.length c0_4) := (blk_cell BK101.out 4).trans rfl
         have hfz38_0 := blk_frozen BK101.out 0
         have hfz38_1 := blk_frozen BK101.out 1
         have hfz38_2 := blk_frozen BK101.out 2
         have hfz38_3 := blk_frozen BK101.out 3
         have hfz38_4 := blk_frozen BK101.out 4
         try go_wp2_with (first | ((with_reducible refine gate_callee (f := 41) rfl ?_); refine goesL_ (some 35) rfl rfl Tryd.func41 (by kernel_rfl) rfl #[.slice A0_4 l0_4.length c0_4] rfl bM ?_; (with_reducible refine (ferruleref02_Text.calls k _ _ l0_4 t107 _ ?side1 ?side2 A31.out).mono ?_); (case side1 => exact sW (Kd.C_below HR0_4.out HB.out)); (case side2 => exact HC0_4.out); rintro e w' ⟨rfl, ⟨nd, rfl⟩⟩; refine ⟨_, rfl, ?_⟩))
         go_ret
         exact ⟨by first | rfl | (simp [errW_none, errW_some] <;> rfl) | (simp [*, errW_none, errW_some] <;> rfl), bB⟩
        ·rw [if_neg c32] at H
         exact absurd H (by simp)
       ·rw [if_neg c30] at H
        exact absurd H (by simp)
      ·rw [if_neg c29] at H
       have c29b0 : decide (0 < (l0_4.length : Int)) = false := decide_eq_false c29
       have c29b1 : decide (0 < l0_4.length) = false := decide_eq_false (by omega)
       clear c29
       obtain rfl := Option.some.inj H
       go_enter Tryd.func46, Tryd.ntmps46
       try go_wp2_with (first | ((with_reducible refine gate_dst (N := 1) rfl ?_); refine box_event ?hg (N := 1) ?hd (cs := #[.int .u64 a0_0, .int .u64 a0_1, .int .u64 a0_2, .slice A0_3 l0_3.length c0_3, .slice A0_4 l0_4.length c0_4]) (t := 40) ?hr ?_; (case hd => rfl); (case hg => rfl); (case hr => first | (go_simp; done) | (go_simp; rfl)); intro gb101 hg w39 hbox hb; have BK101 := Aside0.mk hbox; have GW101 := Aside0.mk ((by rw [hg]; exact (below_size bB) : w.heap.size ≤ gb101)); have GE101 := Aside0.mk ((by rw [hg]; exact (below_size bB) : w.heap.size ≤ gb101)); replace HB := aB HB hb; clear hb hbox hg))
       replace BK101 := Aside0.mk (blk_drew BK101.out)
       replace HB := Aside0.mk (below_drew1 HB.out)
       refine start_ (n := 14) (S := fun w' => w'.cell? ⟨gb101, 0, none⟩ = some (.int .u64 a0_0) ∧ w'.cell? ⟨gb101, 1, none⟩ = some (.int .u64 a0_1) ∧ w'.cell? ⟨gb101, 2, none⟩ = some (.int .u64 a0_2) ∧ w'.cell? ⟨gb101, 3, none⟩ = some (.slice A0_3 l0_3.length c0_3) ∧ w'.cell? ⟨gb101, 4, none⟩ = some (.slice A0_4 l0_4.length c0_4)) (ds := []) #[false, false, false, false, false, false, false, false, false, false, false, false, false, false] (by kernel_rfl) rfl rfl ⟨(blk_cell BK101.out 0).trans rfl, (blk_cell BK101.out 1).trans rfl, (blk_cell BK101.out 2).trans rfl, (blk_cell BK101.out 3).trans rfl, (blk_cell BK101.out 4).trans rfl⟩ (fun hHeld => ?_); refine with_tabW ferruleref03_Text.tab1 ferruleref03_Text.bits1 (fun HT_ HW_ => ?_)
       generalize w39.drew = w40 at BK101 HB hHeld ⊢
       refine pV 0 4 rfl rfl ?_
       refine pV 4 8 rfl rfl ?_
       refine pV 9 13 rfl rfl ?_
       refine tV 1 5 rfl rfl ?_
       refine tV 5 9 rfl rfl ?_
       refine tV 10 14 rfl rfl ?_
       refine one_ (i := 2) (N := some 6) #[true, true, true, false, true, true, false, false, false, true, true, false, false, false] rfl rfl (one_of HT_.out (by kernel_rfl)) (by decide) (fun K hK => ?_)
       refine goes_ Tryd.func68 (by kernel_rfl) rfl #[.int .u64 a0_0] (by rfl) rfl rfl bM ?_
       with_reducible refine (ferruleref01_Text.calls k a0_0 t102 _ A2.out).mono ?_
       rintro e w41 ⟨rfl, hb⟩
       refine ⟨_, rfl, ?_⟩
       replace BK101 := aK BK101 hb
       replace HB := aB HB hb
       (try clear hb)
       (try clear hb2)
       (try clear hk)
       (try clear hi)
       refine hK.out _ _ ⟨(blk_cell BK101.out 0).trans rfl, (blk_cell BK101.out 1).trans rfl, (blk_cell BK101.out 2).trans rfl, (blk_cell BK101.out 3).trans rfl, (blk_cell BK101.out 4).trans rfl⟩ (fun hHeld => ?_)
       clear hK K
       refine norm_ (a' := ?_) ?_ ?_
       rotate_left
       ·show Act.put _ (some 6) _ = _
        simp only [Act.put, List.setIfInBounds_toArray, List.set_cons_zero, List.set_cons_succ, i64_w, i32_w]
        rfl
       refine pV 3 7 rfl rfl ?_
       refine one_ (i := 6) (N := some 10) #[true, true, true, true, true, true, true, false, false, true, true, false, false, false] rfl rfl (one_of HT_.out (by kernel_rfl)) (by decide) (fun K hK => ?_)
       refine goes_ Tryd.func68 (by kernel_rfl) rfl #[.int .u64 a0_1] (by rfl) rfl rfl bM ?_
       with_reducible refine (ferruleref01_Text.calls k a0_1 t103 _ A4.out).mono ?_
       rintro e w42 ⟨rfl, hb⟩
       refine ⟨_, rfl, ?_⟩
       replace BK101 := aK BK101 hb
       replace HB := aB HB hb
       (try clear hb)
       (try clear hb2)
       (try clear hk)
       (try clear hi)
       refine hK.out _ _ ⟨(blk_cell BK101.out 0).trans rfl, (blk_cell BK101.out 1).trans rfl, (blk_cell BK101.out 2).trans rfl, (blk_cell BK101.out 3).trans rfl, (blk_cell BK101.out 4).trans rfl⟩ (fun hHeld => ?_)
       clear hK K
       refine norm_ (a' := ?_) ?_ ?_
       rotate_left
       ·show Act.put _ (some 10) _ = _
        simp only [Act.put, List.setIfInBounds_toArray, List.set_cons_zero, List.set_cons_succ, i64_w, i32_w]
        rfl
       refine pV 7 11 rfl rfl ?_
       refine pV 8 12 rfl rfl ?_
       refine one_ (i := 11) (N := some 15) #[true, true, true, true, true, true, true, true, true, true, true, true, false, false] rfl rfl (one_of HT_.out (by kernel_rfl)) (by decide) (fun K hK => ?_)
       refine goes_ Tryd.func68 (by kernel_rfl) rfl #[.int .u64 a0_2] (by rfl) rfl rfl bM ?_
       with_reducible refine (ferruleref01_Text.calls k a0_2 t104 _ A7.out).mono ?_
       rintro e w43 ⟨rfl, hb⟩
       refine ⟨_, rfl, ?_⟩
       replace BK101 := aK BK101 hb
       replace HB := aB HB hb
       (try clear hb)
       (try clear hb2)
       (try clear hk)
       (try clear hi)
       refine hK.out _ _ ⟨(blk_cell BK101.out 0).trans rfl, (blk_cell BK101.out 1).trans rfl, (blk_cell BK101.out 2).trans rfl, (blk_cell BK101.out 3).trans rfl, (blk_cell BK101.out 4).trans rfl⟩ (fun hHeld => ?_)
       clear hK K
       refine norm_ (a' := ?_) ?_ ?_
       rotate_left
       ·show Act.put _ (some 15) _ = _
        simp only [Act.put, List.setIfInBounds_toArray, List.set_cons_zero, List.set_cons_succ, i64_w, i32_w]
        rfl
       refine pV 12 16 rfl rfl ?_
       refine pV 13 3 rfl rfl ?_
       refine done_ (done_of HT_.out (by kernel_rfl)) ?_
       have hcz44_0 : w43.cell? ⟨gb101, 0, none⟩ = some (.int .u64 a0_0) := (blk_cell BK101.out 0).trans rfl
       have hcz44_1 : w43.cell? ⟨gb101, 1, none⟩ = some (.int .u64 a0_1) := (blk_cell BK101.out 1).trans rfl
       have hcz44_2 : w43.cell? ⟨gb101, 2, none⟩ = some (.int .u64 a0_2) := (blk_cell BK101.out 2).trans rfl
       have hcz44_3 : w43.cell? ⟨gb101, 3, none⟩ = some (.slice A0_3 l0_3.length c0_3) := (blk_cell BK101.out 3).trans rfl
       have hcz44_4 : w43.cell? ⟨gb101, 4, none⟩ = some (.slice A0_4 l0_4.length c0_4) := (blk_cell BK101.out 4).trans rfl
       have hfz44_0 := blk_frozen BK101.out 0
       have hfz44_1 := blk_frozen BK101.out 1
       have hfz44_2 := blk_frozen BK101.out 2
       have hfz44_3 := blk_frozen BK101.out 3
       have hfz44_4 := blk_frozen BK101.out 4
       try go_wp2
       go_ret
       exact ⟨by first | rfl | (simp [errW_none, errW_some] <;> rfl) | (simp [*, errW_none, errW_some] <;> rfl), bB⟩
    ·rw [if_neg c8] at H
     exact absurd H (by simp)
   ·rw [if_neg c6] at H
    exact absurd H (by simp)
  ·rw [if_neg c5] at H
   exact absurd H (by simp)
 ·rw [if_neg c3] at H
  exact absurd H (by simp)

end Go.Proofs.YtildmfegfkiknaaDoor.X
