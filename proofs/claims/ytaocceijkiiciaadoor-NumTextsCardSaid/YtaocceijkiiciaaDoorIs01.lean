/- Which texts are numerals: the program's function and the document's come to one plain function. -/
import Derived.Test.YtaocceijkiiciaaDoorDigits
import Derived.Test.YtaocceijkiiciaaDoorXn10
namespace Go.Proofs.YtaocceijkiiciaaDoor.Is01
open Go.RowKit Go.Proofs.YtaocceijkiiciaaDoorW.PrintWords Go.Proofs.YtaocceijkiiciaaDoor.Aid Go.Proofs.YtaocceijkiiciaaDoor.Digits Go.Proofs.YtaocceijkiiciaaDoor.X

/-- A numeral: digits, at least one, the first of which isn't 0, but of the numeral 0 alone. -/
def isNum (l : List Int) : Bool := l.all isd && (decide (l.length = 1) || (decide (1 ≤ l.length) && decide (rd l 0 ≠ 48)))
theorem digit_ev (c : Int) (h : 0 ≤ c ∧ c < 256) : num_digit.f c = some (isd c) := by
  unfold num_digit.f isd
  congr 1
  rw [← Bool.decide_and, decide_eq_decide]
  omega
theorem bt_get (s : ByteArray) (n : Nat) (h : n < (bytesOf s).length) : bt s (n : Int) = (bytesOf s)[n] := by
  rw [bt_bs, rd_of (by omega) (by omega)]; rfl
theorem all_false {l : List Int} {n : Nat} (h : n < l.length) (hd : isd l[n] = false) : l.all isd = false := by
  rw [List.all_eq_false]
  exact ⟨l[n], List.getElem_mem h, by simp [hd]⟩
theorem all_of {l : List Int} (h : ∀ i (hi : i < l.length), isd l[i] = true) : l.all isd = true := by
  rw [List.all_eq_true]
  intro x hx
  obtain ⟨i, hi, rfl⟩ := List.getElem_of_mem hx
  exact h i hi

theorem is_l0 (s : ByteArray) (hs : s.size ≤ 140737488351232) (d : Nat) : ∀ n : Nat, s.size - n = d → n ≤ s.size → (∀ i (hi : i < (bytesOf s).length), i < n → isd (bytesOf s)[i] = true) →
    Ev (fun k => num_Is.l0 k s (n : Int)) (isNum (bytesOf s)) := by
  have hl := bs_length s
  have stop : ∀ n : Nat, n ≤ s.size → (n = s.size → (bytesOf s).all isd = true) → (n < s.size → (bytesOf s).all isd = false) →
      Ev (fun _ => if (n : Int) > 0 then (if (n : Int) = (s.size : Int) then (if (n : Int) = 1 then (some true) else (if 0 < (s.size : Int) then (some ((bt s 0) != 48)) else (none))) else (some false)) else (some false)) (isNum (bytesOf s)) := by
    intro n hn he hlt
    unfold isNum
    by_cases h0 : (n : Int) > 0
    · refine ev_pos h0 ?_
      by_cases h1 : (n : Int) = (s.size : Int)
      · refine ev_pos h1 ?_
        rw [he (by omega), Bool.true_and]
        by_cases h2 : (n : Int) = 1
        · refine ev_pos h2 (ev_now ?_)
          rw [decide_eq_true (show (bytesOf s).length = 1 by omega)]
          rfl
        · refine ev_neg h2 (ev_pos (by omega) (ev_now ?_))
          rw [decide_eq_false (show ¬ (bytesOf s).length = 1 by omega), decide_eq_true (show 1 ≤ (bytesOf s).length by omega), bt_bs, Bool.false_or, Bool.true_and]
          rw [Bool.eq_iff_iff, bne_iff_ne, decide_eq_true_eq]
      · refine ev_neg h1 (ev_now ?_)
        rw [hlt (by omega), Bool.false_and]
    · refine ev_neg h0 (ev_now ?_)
      by_cases hz : s.size = 0
      · rw [decide_eq_false (show ¬ (bytesOf s).length = 1 by omega), decide_eq_false (show ¬ 1 ≤ (bytesOf s).length by omega)]
        simp
      · rw [hlt (by omega), Bool.false_and]
  induction d with
  | zero =>
    intro n hd hn hall
    refine Ev.step (fun k => by rw [num_Is.l0]) (ev_neg (by omega) ?_)
    exact stop n hn (fun _ => all_of fun i hi => hall i hi (by omega)) fun h => by omega
  | succ d ih =>
    intro n hd hn hall
    have hlt : n < (bytesOf s).length := by omega
    refine Ev.step (fun k => by rw [num_Is.l0]) (ev_pos (by omega) (ev_pos (by omega) ?_))
    rw [digit_ev _ (by have := bt_range s (n : Int); omega), bt_get s n hlt]
    refine ev_bind (Ev.now _) ?_
    by_cases hdg : isd (bytesOf s)[n] = true
    · refine ev_pos hdg ?_
      rw [wrap64_in (by omega) (by omega), show (n : Int) + 1 = ((n + 1 : Nat) : Int) by omega]
      refine ih (n + 1) (by omega) (by omega) fun i hi hlt2 => ?_
      by_cases e : i = n
      · subst e; exact hdg
      · exact hall i hi (by omega)
    · refine ev_neg hdg ?_
      exact stop n hn (fun h => by omega) fun _ => all_false hlt (by simpa using hdg)

theorem is_ev (s : ByteArray) (hs : s.size ≤ 140737488351232) : Ev (fun k => num_Is.f k s) (isNum (bytesOf s)) := by
  unfold num_Is.f
  exact is_l0 s hs _ 0 rfl (by omega) fun i hi h => by omega

end Go.Proofs.YtaocceijkiiciaaDoor.Is01
