-- Written by a program of this session (wip/xp), out of the translation. Not trusted: Lean checks it.
import Derived.Test.YtaocceijkiiciaaX0
import Derived.Test.YtaocceijkiiciaaXn21
namespace Go.Proofs.Ytaocceijkiiciaa.X
open Go.RowKit Go.Proofs.YtaocceijkiiciaaW.PrintWords Go.Proofs.YtaocceijkiiciaaW.PrintLast Go.Proofs.YtaocceijkiiciaaW.PrintMore
attribute [local go_sem] Lab.str_gtr Lab.str_leq Lab.str_geq max2_int min2_int max_two min_two max_three min_three max_four min_four   -- for this text's walks alone
set_option linter.unusedVariables false
set_option linter.unusedSimpArgs false

/-! ### ferruleref01_Compare: function 22 -/
mutual
def ferruleref01_Compare.j0 : Nat → ByteArray → ByteArray → Bool → Option (Int)
  | 0, _, _, _ => none
  | k + 1, x0, x1, x12 => if x12 = true then (some 0) else (ferruleref01_Compare.l0 k x0 x1)
def ferruleref01_Compare.l0 : Nat → ByteArray → ByteArray → Option (Int)
  | 0, _, _ => none
  | k + 1, x0, x1 => if (x0.size : Int) < (x1.size : Int) then (if 1 + x0.size ≤ 9223372036854775807 then (ferruleref01_Compare.l0 k ((⟨#[48]⟩ : ByteArray) ++ x0) x1) else (none)) else (ferruleref01_Compare.l1 k x0 x1)
def ferruleref01_Compare.l1 : Nat → ByteArray → ByteArray → Option (Int)
  | 0, _, _ => none
  | k + 1, x0, x1 => if (x1.size : Int) < (x0.size : Int) then (if 1 + x1.size ≤ 9223372036854775807 then (ferruleref01_Compare.l1 k x0 ((⟨#[48]⟩ : ByteArray) ++ x1)) else (none)) else (if (Op.bytesLess x0.toList x1.toList) = true then (some (-1)) else (if (Op.bytesLess x1.toList x0.toList) = true then (some 1) else (some 0)))
end
def ferruleref01_Compare.f (k : Nat) (a0 : ByteArray) (a1 : ByteArray) : Option (Int) := (ferruleref01_Is.f k a0).bind fun t119 => (if t119 = true then ((ferruleref01_Is.f k a1).bind fun t120 => (ferruleref01_Compare.j0 k a0 a1 (!t120))) else (ferruleref01_Compare.j0 k a0 a1 true))
theorem ferruleref01_Compare.mono_l : ∀ k, (∀ y0 y1 y2, LeO (ferruleref01_Compare.j0 k y0 y1 y2) (ferruleref01_Compare.j0 (k + 1) y0 y1 y2)) ∧ (∀ y0 y1, LeO (ferruleref01_Compare.l0 k y0 y1) (ferruleref01_Compare.l0 (k + 1) y0 y1)) ∧ (∀ y0 y1, LeO (ferruleref01_Compare.l1 k y0 y1) (ferruleref01_Compare.l1 (k + 1) y0 y1))
  | 0 => ⟨fun _ _ _ r h => by simp [ferruleref01_Compare.j0] at h, fun _ _ r h => by simp [ferruleref01_Compare.l0] at h, fun _ _ r h => by simp [ferruleref01_Compare.l1] at h⟩
  | k + 1 => by
    obtain ⟨ih0, ih1, ih2⟩ := ferruleref01_Compare.mono_l k
    refine ⟨?_, ?_, ?_⟩
    · intro y0 y1 y2
      unfold ferruleref01_Compare.j0
      repeat' first
      | (with_reducible exact ih0 _ _ _)
      | (with_reducible exact ih1 _ _)
      | (with_reducible exact ih2 _ _)
      | (with_reducible exact ferruleref01_Is.mono _ _)
      | (with_reducible exact LeO.refl _)
      | (with_reducible exact LeO.none _)
      | (with_reducible refine LeO.ite ?_ ?_)
      | (with_reducible refine LeO.bind ?_ (fun _ => ?_))
      | exact ih0 _ _ _
      | exact ih1 _ _
      | exact ih2 _ _
      | exact ferruleref01_Is.mono _ _
      | exact LeO.none _
      | refine LeO.ite ?_ ?_
      | refine LeO.bind ?_ (fun _ => ?_)
    · intro y0 y1
      unfold ferruleref01_Compare.l0
      repeat' first
      | (with_reducible exact ih0 _ _ _)
      | (with_reducible exact ih1 _ _)
      | (with_reducible exact ih2 _ _)
      | (with_reducible exact ferruleref01_Is.mono _ _)
      | (with_reducible exact LeO.refl _)
      | (with_reducible exact LeO.none _)
      | (with_reducible refine LeO.ite ?_ ?_)
      | (with_reducible refine LeO.bind ?_ (fun _ => ?_))
      | exact ih0 _ _ _
      | exact ih1 _ _
      | exact ih2 _ _
      | exact ferruleref01_Is.mono _ _
      | exact LeO.none _
      | refine LeO.ite ?_ ?_
      | refine LeO.bind ?_ (fun _ => ?_)
    · intro y0 y1
      unfold ferruleref01_Compare.l1
      repeat' first
      | (with_reducible exact ih0 _ _ _)
      | (with_reducible exact ih1 _ _)
      | (with_reducible exact ih2 _ _)
      | (with_reducible exact ferruleref01_Is.mono _ _)
      | (with_reducible exact LeO.refl _)
      | (with_reducible exact LeO.none _)
      | (with_reducible refine LeO.ite ?_ ?_)
      | (with_reducible refine LeO.bind ?_ (fun _ => ?_))
      | exact ih0 _ _ _
      | exact ih1 _ _
      | exact ih2 _ _
      | exact ferruleref01_Is.mono _ _
      | exact LeO.none _
      | refine LeO.ite ?_ ?_
      | refine LeO.bind ?_ (fun _ => ?_)
theorem ferruleref01_Compare.mono : ∀ a0 a1 k, LeO (ferruleref01_Compare.f k a0 a1) (ferruleref01_Compare.f (k + 1) a0 a1) := by
  intro a0 a1 k
  obtain ⟨ih0, ih1, ih2⟩ := ferruleref01_Compare.mono_l k
  unfold ferruleref01_Compare.f
  repeat' first
      | (with_reducible exact ih0 _ _ _)
      | (with_reducible exact ih1 _ _)
      | (with_reducible exact ih2 _ _)
      | (with_reducible exact ferruleref01_Is.mono _ _)
      | (with_reducible exact LeO.refl _)
      | (with_reducible exact LeO.none _)
      | (with_reducible refine LeO.ite ?_ ?_)
      | (with_reducible refine LeO.bind ?_ (fun _ => ?_))
      | exact ih0 _ _ _
      | exact ih1 _ _
      | exact ih2 _ _
      | exact ferruleref01_Is.mono _ _
      | exact LeO.none _
      | refine LeO.ite ?_ ?_
      | refine LeO.bind ?_ (fun _ => ?_)
set_option maxHeartbeats 8000000 in
set_option maxRecDepth 100000 in
theorem ferruleref01_Compare.calls (k : Nat) (a0 : ByteArray) (a1 : ByteArray) (r : Int) (w : World) (h : ferruleref01_Compare.f k a0 a1 = some r) :
    Calls Try.prog 22 #[.string a0, .string a1] w fun e w' => e = .returned (.int .i64 r) ∧ Drawn0 w w' := by
  have H : ((ferruleref01_Is.f k a0).bind fun t119 => (if t119 = true then ((ferruleref01_Is.f k a1).bind fun t120 => (ferruleref01_Compare.j0 k a0 a1 (!t120))) else (ferruleref01_Compare.j0 k a0 a1 true))) = some r := h
  clear h
  have HC3 := Aside0.mk H
  clear H
  go_enter Try.func22, Try.ntmps22
  go_upto_region 1 with (fail)
  go_cut [12] (fun v12 wc => ∃ (kq : Nat) (x12_2 : Bool), v12 = .bool x12_2 ∧ Aside0 (ferruleref01_Compare.j0 kq a0 a1 x12_2 = some r) ∧ Aside0 (kq ≤ k) ∧ Drawn0 w wc)
  case first =>
    have H := HC3.out
    clear HC3
    replace H := Option.bind_eq_some_iff.mp H
    obtain ⟨t119, A40, H⟩ := H
    replace H : (if t119 = true then ((ferruleref01_Is.f k a1).bind fun t120 => (ferruleref01_Compare.j0 k a0 a1 (!t120))) else (ferruleref01_Compare.j0 k a0 a1 true)) = some r := H
    have A4 := Aside0.mk A40
    clear A40
    by_cases c5 : t119 = true
    · subst c5
      have H1 : ((ferruleref01_Is.f k a1).bind fun t120 => (ferruleref01_Compare.j0 k a0 a1 (!t120))) = some r := by rw [if_pos rfl] at H; exact H
      clear H
      have H := H1
      clear H1
      replace H := Option.bind_eq_some_iff.mp H
      obtain ⟨t120, A60, H⟩ := H
      replace H : (ferruleref01_Compare.j0 k a0 a1 (!t120)) = some r := H
      have A6 := Aside0.mk A60
      clear A60
      have H' := Aside0.mk H
      clear H
      go_wp2_with (first | ((with_reducible refine gate_callee (f := 21) rfl ?_); refine goesL_ (some 6) rfl rfl Try.func21 (by kernel_rfl) rfl #[.string a0] rfl (by (try simp only [List.map_toArray, List.map_cons, List.map_nil]); first | done | rfl | (simp only [List.length_drop, List.length_take]; rfl)) ?_; (with_reducible refine (ferruleref01_Is.calls k a0 true _ A4.out).mono ?_); rintro e w' ⟨rfl, ⟨nd, rfl⟩⟩; refine ⟨_, rfl, ?_⟩) | (go_at_call 21; (with_reducible refine (ferruleref01_Is.calls k a1 t120 _ A6.out).mono ?_); rintro e w' ⟨rfl, ⟨nd, rfl⟩⟩))
      go_meet
      case rel => exact ⟨_, (!t120), (by first | rfl | (simp; done) | (simp [*]; done)), H', ⟨by first | omega | exact Nat.le_refl _⟩, by repeat (first | exact Drawn0.refl _ | apply Drawn0.step)⟩
    · replace c5 := Bool.eq_false_iff.mpr c5
      subst c5
      have H1 : (ferruleref01_Compare.j0 k a0 a1 true) = some r := by rw [if_neg (show ¬ (false = true) by decide)] at H; exact H
      clear H
      have H := H1
      clear H1
      have H' := Aside0.mk H
      clear H
      go_wp2_with (first | ((with_reducible refine gate_callee (f := 21) rfl ?_); refine goesL_ (some 6) rfl rfl Try.func21 (by kernel_rfl) rfl #[.string a0] rfl (by (try simp only [List.map_toArray, List.map_cons, List.map_nil]); first | done | rfl | (simp only [List.length_drop, List.length_take]; rfl)) ?_; (with_reducible refine (ferruleref01_Is.calls k a0 false _ A4.out).mono ?_); rintro e w' ⟨rfl, ⟨nd, rfl⟩⟩; refine ⟨_, rfl, ?_⟩))
      go_meet
      case rel => exact ⟨_, (true), (by first | rfl | (simp; done) | (simp [*]; done)), H', ⟨by first | omega | exact Nat.le_refl _⟩, by repeat (first | exact Drawn0.refl _ | apply Drawn0.step)⟩
  case rest =>
    clear HC3
    try clear c2
    try clear p2
    try clear c5
    obtain ⟨kq, x12_2, rfl, HA, HJ2, ⟨mc2, rfl⟩⟩ := hcut
    cases kq with
    | zero => exact absurd HA.out (by simp [ferruleref01_Compare.j0])
    | succ kj2 =>
      have H := HA.out
      clear HA
      simp only [ferruleref01_Compare.j0] at H
      by_cases c7 : x12_2 = true
      · subst c7
        have H1 : (some 0) = some r := by rw [if_pos rfl] at H; exact H
        clear H
        have H := H1
        clear H1
        obtain rfl := Option.some.inj H
        go_wp2
        go_ret
        exact ⟨by first | rfl | (simp; done) | (simp [*]; done), by repeat (first | exact Drawn0.refl _ | apply Drawn0.step)⟩
      · replace c7 := Bool.eq_false_iff.mpr c7
        subst c7
        have H1 : (ferruleref01_Compare.l0 kj2 a0 a1) = some r := by rw [if_neg (show ¬ (false = true) by decide)] at H; exact H
        clear H
        have H := H1
        clear H1
        have H' := Aside0.mk H
        clear H
        go_wp2
        go_loopg [0] kj2 (fun kq v0 w' => ∃ (x0_2 : ByteArray), v0 = .string x0_2 ∧ Aside0 (ferruleref01_Compare.l0 kq x0_2 a1 = some r) ∧ Aside0 (kq ≤ kj2) ∧ Drawn0 w w')
        case atStart => exact ⟨(a0), (by first | rfl | (simp; done) | (simp [*]; done)), H', ⟨Nat.le_refl _⟩, by repeat (first | exact Drawn0.refl _ | apply Drawn0.step)⟩
        case round =>
          clear H'
          try clear c2
          try clear p2
          try clear c5
          try clear c7
          try clear p2
          obtain ⟨x0_2, rfl, HA, HK2, ⟨m2, rfl⟩⟩ := hrel
          cases gk with
          | zero => exact absurd HA.out (by simp [ferruleref01_Compare.l0])
          | succ k2 =>
            have H := HA.out
            clear HA
            simp only [ferruleref01_Compare.l0] at H
            by_cases c8 : (x0_2.size : Int) < (a1.size : Int)
            · rw [if_pos c8] at H
              have c8b0 : decide ((x0_2.size : Int) < (a1.size : Int)) = true := decide_eq_true c8
              have c8b1 : decide (x0_2.size < a1.size) = true := decide_eq_true (Int.ofNat_lt.mp c8)
              clear c8
              by_cases c9 : 1 + x0_2.size ≤ 9223372036854775807
              · rw [if_pos c9] at H
                have c9b0 := eq_true c9
                have c9b1 : decide (1 + x0_2.size ≤ 9223372036854775807) = true := decide_eq_true c9
                try have c9b2 : (9223372036854775807 < 1 + x0_2.size) = False := eq_false (Nat.not_lt.2 c9)
                have H' := Aside0.mk H
                clear H
                go_wp2
                go_roundg k2
                case measure => have := HJ2.out; have := HK2.out; omega
                case rel => exact ⟨((⟨#[48]⟩ : ByteArray) ++ x0_2), (by first | rfl | (simp; done) | (simp [*]; done)), H', ⟨by have := HJ2.out; have := HK2.out; omega⟩, by repeat (first | exact Drawn0.refl _ | apply Drawn0.step)⟩
              · rw [if_neg c9] at H
                exact absurd H (by simp)
            · rw [if_neg c8] at H
              have c8b0 : decide ((x0_2.size : Int) < (a1.size : Int)) = false := decide_eq_false c8
              have c8b1 : decide (x0_2.size < a1.size) = false := decide_eq_false (fun h => c8 (Int.ofNat_lt.mpr h))
              clear c8
              have H' := Aside0.mk H
              clear H
              go_wp2
              go_loopg [1] k2 (fun kq v1 w' => ∃ (x1_3 : ByteArray), v1 = .string x1_3 ∧ Aside0 (ferruleref01_Compare.l1 kq x0_2 x1_3 = some r) ∧ Aside0 (kq ≤ k2) ∧ Drawn0 w w')
              case atStart => exact ⟨(a1), (by first | rfl | (simp; done) | (simp [*]; done)), H', ⟨Nat.le_refl _⟩, by repeat (first | exact Drawn0.refl _ | apply Drawn0.step)⟩
              case round =>
                clear H'
                try clear c2
                try clear p2
                try clear c5
                try clear c7
                try clear c8
                try clear c8b0
                try clear c8b1
                try clear c9
                try clear c9b0
                try clear c9b1
                try clear c9b2
                try clear p2
                obtain ⟨x1_3, rfl, HA, HK3, ⟨m3, rfl⟩⟩ := hrel
                cases gk with
                | zero => exact absurd HA.out (by simp [ferruleref01_Compare.l1])
                | succ k3 =>
                  have H := HA.out
                  clear HA
                  simp only [ferruleref01_Compare.l1] at H
                  by_cases c10 : (x1_3.size : Int) < (x0_2.size : Int)
                  · rw [if_pos c10] at H
                    have c10b0 : decide ((x1_3.size : Int) < (x0_2.size : Int)) = true := decide_eq_true c10
                    have c10b1 : decide (x1_3.size < x0_2.size) = true := decide_eq_true (Int.ofNat_lt.mp c10)
                    clear c10
                    by_cases c11 : 1 + x1_3.size ≤ 9223372036854775807
                    · rw [if_pos c11] at H
                      have c11b0 := eq_true c11
                      have c11b1 : decide (1 + x1_3.size ≤ 9223372036854775807) = true := decide_eq_true c11
                      try have c11b2 : (9223372036854775807 < 1 + x1_3.size) = False := eq_false (Nat.not_lt.2 c11)
                      have H' := Aside0.mk H
                      clear H
                      go_wp2
                      go_roundg k3
                      case measure => have := HJ2.out; have := HK2.out; have := HK3.out; omega
                      case rel => exact ⟨((⟨#[48]⟩ : ByteArray) ++ x1_3), (by first | rfl | (simp; done) | (simp [*]; done)), H', ⟨by have := HJ2.out; have := HK2.out; have := HK3.out; omega⟩, by repeat (first | exact Drawn0.refl _ | apply Drawn0.step)⟩
                    · rw [if_neg c11] at H
                      exact absurd H (by simp)
                  · rw [if_neg c10] at H
                    have c10b0 : decide ((x1_3.size : Int) < (x0_2.size : Int)) = false := decide_eq_false c10
                    have c10b1 : decide (x1_3.size < x0_2.size) = false := decide_eq_false (fun h => c10 (Int.ofNat_lt.mpr h))
                    clear c10
                    by_cases c12 : (Op.bytesLess x0_2.toList x1_3.toList) = true
                    · rw [if_pos c12] at H
                      have c12b0 : (Op.bytesLess x0_2.toList x1_3.toList) = true := c12
                      clear c12
                      obtain rfl := Option.some.inj H
                      go_wp2
                      go_ret
                      exact ⟨by first | rfl | (simp; done) | (simp [*]; done), by repeat (first | exact Drawn0.refl _ | apply Drawn0.step)⟩
                    · rw [if_neg c12] at H
                      have c12b0 : (Op.bytesLess x0_2.toList x1_3.toList) = false := by simpa using c12
                      clear c12
                      by_cases c13 : (Op.bytesLess x1_3.toList x0_2.toList) = true
                      · rw [if_pos c13] at H
                        have c13b0 : (Op.bytesLess x1_3.toList x0_2.toList) = true := c13
                        clear c13
                        obtain rfl := Option.some.inj H
                        go_wp2
                        go_ret
                        exact ⟨by first | rfl | (simp; done) | (simp [*]; done), by repeat (first | exact Drawn0.refl _ | apply Drawn0.step)⟩
                      · rw [if_neg c13] at H
                        have c13b0 : (Op.bytesLess x1_3.toList x0_2.toList) = false := by simpa using c13
                        clear c13
                        obtain rfl := Option.some.inj H
                        go_wp2
                        go_ret
                        exact ⟨by first | rfl | (simp; done) | (simp [*]; done), by repeat (first | exact Drawn0.refl _ | apply Drawn0.step)⟩

end Go.Proofs.Ytaocceijkiiciaa.X
