/- How numerals compare: the program's function and the document's come to one plain function. -/
import Derived.Test.YtaocceijkiiciaaDoorIs01
import Derived.Test.YtaocceijkiiciaaDoorXn12
namespace Go.Proofs.YtaocceijkiiciaaDoor.Cmp01
open Go.RowKit Go.Proofs.YtaocceijkiiciaaDoorW.PrintWords Go.Proofs.YtaocceijkiiciaaDoor.Aid Go.Proofs.YtaocceijkiiciaaDoor.Digits Go.Proofs.YtaocceijkiiciaaDoor.X Go.Proofs.YtaocceijkiiciaaDoor.Is01

/-- How two numbers stand. -/
def cmpI (x y : Int) : Int := if x < y then -1 else if y < x then 1 else 0
theorem cmpI_flip (x y : Int) : cmpI y x = -cmpI x y := by
  unfold cmpI
  (repeat' split) <;> omega
theorem compareBytes_eq : ∀ a b : List UInt8, Lib.compareBytes a b = if Op.bytesLess a b = true then -1 else if Op.bytesLess b a = true then 1 else 0
  | [], [] => rfl
  | [], _ :: _ => rfl
  | _ :: _, [] => rfl
  | a :: x, b :: y => by
    have ih := compareBytes_eq x y
    unfold Lib.compareBytes
    simp only [Op.bytesLess]
    by_cases h1 : a < b
    · simp [h1]
    · rw [if_neg h1]
      by_cases h2 : b < a
      · have h3 : (a == b) = false := by simpa using fun e => by subst e; simp at h2
        have h3' : ¬ a = b := by simpa using h3
        simp [h1, h2, h3']
      · have e : a = b := UInt8.le_antisymm (UInt8.not_lt.mp h2) (UInt8.not_lt.mp h1)
        subst e
        rw [if_neg h2, ih]
        simp
theorem num_digits {l : List Int} (h : isNum l = true) : (∀ c ∈ l, isd c = true) ∧ l.length ≠ 0 ∧ (1 < l.length → rd l 0 ≠ 48) := by
  unfold isNum at h
  simp only [Bool.and_eq_true, Bool.or_eq_true, decide_eq_true_eq, List.all_eq_true] at h
  obtain ⟨h1, h2⟩ := h
  refine ⟨h1, ?_, fun h3 => ?_⟩
  · rcases h2 with h2 | h2 <;> omega
  · rcases h2 with h2 | h2
    · omega
    · exact h2.2
/-- The longer numeral is the greater number. -/
theorem longer {a b : List Int} (ha : ∀ c ∈ a, isd c = true) (hb : isNum b = true) (h : a.length < b.length) (h1 : 1 ≤ a.length) : val a < val b := by
  obtain ⟨hd, h0, hz⟩ := num_digits hb
  cases b with
  | nil => simp at h
  | cons c t =>
    have hc : c ≠ 48 := fun e => hz (by omega) (by rw [e]; rfl)
    have g1 := val_ge c t hd hc
    have g2 := val_lt a ha
    have g3 : (10 : Int) ^ a.length ≤ 10 ^ t.length := pow_mono10 (by simp at h; omega)
    omega
def cmpN (a b : List Int) : Int := if isNum a && isNum b then cmpI (val a) (val b) else 0
theorem cmp_same (a b : ByteArray) (hl : a.size = b.size) (ha : ∀ c ∈ bytesOf a, isd c = true) (hb : ∀ c ∈ bytesOf b, isd c = true) :
    (if (Op.bytesLess a.toList b.toList) = true then (-1 : Int) else if (Op.bytesLess b.toList a.toList) = true then 1 else 0) = cmpI (val (bytesOf a)) (val (bytesOf b)) := by
  rw [less_bs, less_bs, less_val _ _ (by rw [bs_length, bs_length, hl]) ha hb, less_val _ _ (by rw [bs_length, bs_length, hl]) hb ha]
  simp only [decide_eq_true_eq]
  rfl
theorem compare_ev (a b : ByteArray) (ha : a.size ≤ 140737488351232) (hb : b.size ≤ 140737488351232) : Ev (fun k => num_Compare.f k a b) (cmpN (bytesOf a) (bytesOf b)) := by
  have la := bs_length a
  have lb := bs_length b
  have hj : ∀ c, c = !(isNum (bytesOf a) && isNum (bytesOf b)) → Ev (fun k => num_Compare.j0 k a b c) (cmpN (bytesOf a) (bytesOf b)) := by
    intro c hc
    refine Ev.step (fun k => by rw [num_Compare.j0]) ?_
    unfold cmpN
    cases c with
    | true =>
      refine ev_pos rfl (ev_now ?_)
      rw [if_neg (by intro h; rw [h] at hc; cases hc)]
    | false =>
      have hn : (isNum (bytesOf a) && isNum (bytesOf b)) = true := by simpa using hc
      rw [if_pos hn]
      rw [Bool.and_eq_true] at hn
      obtain ⟨da, za, _⟩ := num_digits hn.1
      obtain ⟨db, zb, _⟩ := num_digits hn.2
      refine ev_neg (by simp) ?_
      by_cases h1 : (a.size : Int) < (b.size : Int)
      · refine ev_pos h1 (ev_now ?_)
        unfold cmpI
        rw [if_pos (longer da hn.2 (by omega) (by omega))]
      · refine ev_neg h1 ?_
        by_cases h2 : (a.size : Int) > (b.size : Int)
        · refine ev_pos h2 (ev_now ?_)
          have := longer db hn.1 (by omega) (by omega)
          unfold cmpI
          rw [if_neg (by omega), if_pos this]
        · refine ev_neg h2 (ev_bind (Ev.now _) (ev_now ?_))
          rw [← cmp_same a b (by omega) da db, toList_data, toList_data, compareBytes_eq]
  unfold num_Compare.f
  refine ev_bind (is_ev a ha) ?_
  by_cases h1 : isNum (bytesOf a) = true
  · refine ev_pos h1 (ev_bind (is_ev b hb) (hj _ ?_))
    rw [h1, Bool.true_and]
  · refine ev_neg h1 (hj _ ?_)
    rw [Bool.not_eq_true] at h1
    rw [h1]
    rfl

end Go.Proofs.YtaocceijkiiciaaDoor.Cmp01
