/- Which texts are numerals, and how they compare: the program's functions and the document's come to one plain function each. -/
import Derived.Test.YtaocceijkiiciaaDigits
import Derived.Test.YtaocceijkiiciaaXn20
import Derived.Test.YtaocceijkiiciaaXn19
import Derived.Test.YtaocceijkiiciaaXn21
import Derived.Test.YtaocceijkiiciaaXn22
namespace Go.Proofs.Ytaocceijkiiciaa.Cmp01
open Go.RowKit Go.Proofs.YtaocceijkiiciaaW.PrintWords Go.Proofs.Ytaocceijkiiciaa.Aid Go.Proofs.Ytaocceijkiiciaa.Digits Go.Proofs.Ytaocceijkiiciaa.X

/-- A numeral: digits, at least one, the first of which isn't 0, but of the numeral 0 alone. -/
def isNum (l : List Int) : Bool := l.all isd && (decide (l.length = 1) || (decide (1 ≤ l.length) && decide (rd l 0 ≠ 48)))
theorem digit_ev (c : Int) (h : 0 ≤ c ∧ c < 256) : num_digit.f c = some (isd c) := by
  unfold num_digit.f isd
  congr 1
  rw [← Bool.decide_and, decide_eq_decide]
  omega
theorem bt_get (s : ByteArray) (n : Nat) (h : n < (bytesOf s).length) : bt s (n : Int) = (bytesOf s)[n] := by
  rw [bt_bs, rd_of (by omega) (by omega)]; rfl
theorem all_false {l : List Int} {n : Nat} (h : n < l.length) (hd : isd l[n] = false) : l.all isd = false := by
  rw [List.all_eq_false]
  exact ⟨l[n], List.getElem_mem h, by simp [hd]⟩
theorem all_of {l : List Int} (h : ∀ i (hi : i < l.length), isd l[i] = true) : l.all isd = true := by
  rw [List.all_eq_true]
  intro x hx
  obtain ⟨i, hi, rfl⟩ := List.getElem_of_mem hx
  exact h i hi

theorem is_l0 (s : ByteArray) (hs : s.size ≤ 140737488351232) (d : Nat) : ∀ n : Nat, s.size - n = d → n ≤ s.size → (∀ i (hi : i < (bytesOf s).length), i < n → isd (bytesOf s)[i] = true) →
    Ev (fun k => num_Is.l0 k s (n : Int)) (isNum (bytesOf s)) := by
  have hl := bs_length s
  have stop : ∀ n : Nat, n ≤ s.size → (n = s.size → (bytesOf s).all isd = true) → (n < s.size → (bytesOf s).all isd = false) →
      Ev (fun _ => if (n : Int) > 0 then (if (n : Int) = (s.size : Int) then (if (n : Int) = 1 then (some true) else (if 0 < (s.size : Int) then (some ((bt s 0) != 48)) else (none))) else (some false)) else (some false)) (isNum (bytesOf s)) := by
    intro n hn he hlt
    unfold isNum
    by_cases h0 : (n : Int) > 0
    · refine ev_pos h0 ?_
      by_cases h1 : (n : Int) = (s.size : Int)
      · refine ev_pos h1 ?_
        rw [he (by omega), Bool.true_and]
        by_cases h2 : (n : Int) = 1
        · refine ev_pos h2 (ev_now ?_)
          rw [decide_eq_true (show (bytesOf s).length = 1 by omega)]
          rfl
        · refine ev_neg h2 (ev_pos (by omega) (ev_now ?_))
          rw [decide_eq_false (show ¬ (bytesOf s).length = 1 by omega), decide_eq_true (show 1 ≤ (bytesOf s).length by omega), bt_bs, Bool.false_or, Bool.true_and]
          rw [Bool.eq_iff_iff, bne_iff_ne, decide_eq_true_eq]
      · refine ev_neg h1 (ev_now ?_)
        rw [hlt (by omega), Bool.false_and]
    · refine ev_neg h0 (ev_now ?_)
      by_cases hz : s.size = 0
      · rw [decide_eq_false (show ¬ (bytesOf s).length = 1 by omega), decide_eq_false (show ¬ 1 ≤ (bytesOf s).length by omega)]
        simp
      · rw [hlt (by omega), Bool.false_and]
  induction d with
  | zero =>
    intro n hd hn hall
    refine Ev.step (fun k => by rw [num_Is.l0]) (ev_neg (by omega) ?_)
    exact stop n hn (fun _ => all_of fun i hi => hall i hi (by omega)) fun h => by omega
  | succ d ih =>
    intro n hd hn hall
    have hlt : n < (bytesOf s).length := by omega
    refine Ev.step (fun k => by rw [num_Is.l0]) (ev_pos (by omega) (ev_pos (by omega) ?_))
    rw [digit_ev _ (by have := bt_range s (n : Int); omega), bt_get s n hlt]
    refine ev_bind (Ev.now _) ?_
    by_cases hdg : isd (bytesOf s)[n] = true
    · refine ev_pos hdg ?_
      rw [wrap64_in (by omega) (by omega), show (n : Int) + 1 = ((n + 1 : Nat) : Int) by omega]
      refine ih (n + 1) (by omega) (by omega) fun i hi hlt2 => ?_
      by_cases e : i = n
      · subst e; exact hdg
      · exact hall i hi (by omega)
    · refine ev_neg hdg ?_
      exact stop n hn (fun h => by omega) fun _ => all_false hlt (by simpa using hdg)

theorem is_ev (s : ByteArray) (hs : s.size ≤ 140737488351232) : Ev (fun k => num_Is.f k s) (isNum (bytesOf s)) := by
  unfold num_Is.f
  exact is_l0 s hs _ 0 rfl (by omega) fun i hi h => by omega

theorem refis_ev (s : ByteArray) (hs : s.size ≤ 140737488351232) : Ev (fun k => ferruleref01_Is.f k s) (isNum (bytesOf s)) := by
  have hl := bs_length s
  unfold ferruleref01_Is.f
  suffices h : ∀ d (n : Nat), s.size - n = d → n ≤ s.size → (∀ i (hi : i < (bytesOf s).length), i < n → isd (bytesOf s)[i] = true) →
      Ev (fun k => ferruleref01_Is.l0 k s (n : Int)) (isNum (bytesOf s)) from h _ 0 rfl (by omega) fun i hi h => by omega
  intro d
  induction d with
  | zero =>
    intro n hd hn hall
    have ha : (bytesOf s).all isd = true := all_of fun i hi => hall i hi (by omega)
    refine Ev.step (fun k => by rw [ferruleref01_Is.l0]) (ev_neg (by omega) ?_)
    unfold isNum
    rw [ha, Bool.true_and]
    by_cases h1 : s.toList = ([48] : List UInt8)
    · refine ev_pos h1 (ev_now ?_)
      rw [toList_eq_iff] at h1
      rw [h1]
      rfl
    · refine ev_neg h1 ?_
      by_cases h2 : s.toList = ([] : List UInt8)
      · refine ev_pos h2 (ev_now ?_)
        rw [toList_eq_iff] at h2
        rw [h2]
        rfl
      · refine ev_neg h2 ?_
        rw [toList_eq_iff] at h1 h2
        have hpos : 1 ≤ (bytesOf s).length := by
          rcases Nat.eq_zero_or_pos (bytesOf s).length with h | h
          · exact absurd (List.length_eq_zero_iff.mp h) h2
          · exact h
        refine ev_pos (by omega) (ev_now ?_)
        rw [decide_eq_true hpos, bt_bs, Bool.true_and]
        by_cases h3 : rd (bytesOf s) 0 = 48
        · rw [h3]
          have h4 : ¬ (bytesOf s).length = 1 := by
            intro h5
            apply h1
            obtain ⟨c, hc⟩ := List.length_eq_one_iff.mp h5
            rw [hc] at h3 ⊢
            simp [rd] at h3
            rw [h3]
            rfl
          rw [decide_eq_false h4]
          rfl
        · rw [decide_eq_true (show rd (bytesOf s) 0 ≠ 48 from h3), Bool.or_true]
          simpa using h3
  | succ d ih =>
    intro n hd hn hall
    have hlt : n < (bytesOf s).length := by omega
    refine Ev.step (fun k => by rw [ferruleref01_Is.l0]) (ev_pos (by omega) (ev_pos (by omega) ?_))
    rw [bt_get s n hlt]
    by_cases h1 : (bytesOf s)[n] < 48
    · refine ev_pos h1 (ev_now ?_)
      unfold isNum
      rw [all_false hlt (by simp [isd]; omega), Bool.false_and]
    · refine ev_neg h1 ?_
      by_cases h2 : (bytesOf s)[n] > 57
      · refine ev_pos h2 (ev_now ?_)
        unfold isNum
        rw [all_false hlt (by simp [isd]; omega), Bool.false_and]
      · refine ev_neg h2 ?_
        rw [wrap64_in (by omega) (by omega), show (n : Int) + 1 = ((n + 1 : Nat) : Int) by omega]
        refine ih (n + 1) (by omega) (by omega) fun i hi hlt2 => ?_
        by_cases e : i = n
        · subst e; rw [isd_iff]; omega
        · exact hall i hi (by omega)

/-- How two numbers stand. -/
def cmpI (x y : Int) : Int := if x < y then -1 else if y < x then 1 else 0
theorem cmpI_flip (x y : Int) : cmpI y x = -cmpI x y := by
  unfold cmpI
  (repeat' split) <;> omega
theorem compareBytes_eq : ∀ a b : List UInt8, Lib.compareBytes a b = if Op.bytesLess a b = true then -1 else if Op.bytesLess b a = true then 1 else 0
  | [], [] => rfl
  | [], _ :: _ => rfl
  | _ :: _, [] => rfl
  | a :: x, b :: y => by
    have ih := compareBytes_eq x y
    unfold Lib.compareBytes
    simp only [Op.bytesLess]
    by_cases h1 : a < b
    · simp [h1]
    · rw [if_neg h1]
      by_cases h2 : b < a
      · have h3 : (a == b) = false := by simpa using fun e => by subst e; simp at h2
        have h3' : ¬ a = b := by simpa using h3
        simp [h1, h2, h3']
      · have e : a = b := UInt8.le_antisymm (UInt8.not_lt.mp h2) (UInt8.not_lt.mp h1)
        subst e
        rw [if_neg h2, ih]
        simp
theorem num_digits {l : List Int} (h : isNum l = true) : (∀ c ∈ l, isd c = true) ∧ l.length ≠ 0 ∧ (1 < l.length → rd l 0 ≠ 48) := by
  unfold isNum at h
  simp only [Bool.and_eq_true, Bool.or_eq_true, decide_eq_true_eq, List.all_eq_true] at h
  obtain ⟨h1, h2⟩ := h
  refine ⟨h1, ?_, fun h3 => ?_⟩
  · rcases h2 with h2 | h2 <;> omega
  · rcases h2 with h2 | h2
    · omega
    · exact h2.2
/-- The longer numeral is the greater number. -/
theorem longer {a b : List Int} (ha : ∀ c ∈ a, isd c = true) (hb : isNum b = true) (h : a.length < b.length) (h1 : 1 ≤ a.length) : val a < val b := by
  obtain ⟨hd, h0, hz⟩ := num_digits hb
  cases b with
  | nil => simp at h
  | cons c t =>
    have hc : c ≠ 48 := fun e => hz (by omega) (by rw [e]; rfl)
    have g1 := val_ge c t hd hc
    have g2 := val_lt a ha
    have g3 : (10 : Int) ^ a.length ≤ 10 ^ t.length := pow_mono10 (by simp at h; omega)
    omega
def cmpN (a b : List Int) : Int := if isNum a && isNum b then cmpI (val a) (val b) else 0
theorem cmp_same (a b : ByteArray) (hl : a.size = b.size) (ha : ∀ c ∈ bytesOf a, isd c = true) (hb : ∀ c ∈ bytesOf b, isd c = true) :
    (if (Op.bytesLess a.toList b.toList) = true then (-1 : Int) else if (Op.bytesLess b.toList a.toList) = true then 1 else 0) = cmpI (val (bytesOf a)) (val (bytesOf b)) := by
  rw [less_bs, less_bs, less_val _ _ (by rw [bs_length, bs_length, hl]) ha hb, less_val _ _ (by rw [bs_length, bs_length, hl]) hb ha]
  simp only [decide_eq_true_eq]
  rfl
theorem compare_ev (a b : ByteArray) (ha : a.size ≤ 140737488351232) (hb : b.size ≤ 140737488351232) : Ev (fun k => num_Compare.f k a b) (cmpN (bytesOf a) (bytesOf b)) := by
  have la := bs_length a
  have lb := bs_length b
  have hj : ∀ c, c = !(isNum (bytesOf a) && isNum (bytesOf b)) → Ev (fun k => num_Compare.j0 k a b c) (cmpN (bytesOf a) (bytesOf b)) := by
    intro c hc
    refine Ev.step (fun k => by rw [num_Compare.j0]) ?_
    unfold cmpN
    cases c with
    | true =>
      refine ev_pos rfl (ev_now ?_)
      rw [if_neg (by intro h; rw [h] at hc; cases hc)]
    | false =>
      have hn : (isNum (bytesOf a) && isNum (bytesOf b)) = true := by simpa using hc
      rw [if_pos hn]
      rw [Bool.and_eq_true] at hn
      obtain ⟨da, za, _⟩ := num_digits hn.1
      obtain ⟨db, zb, _⟩ := num_digits hn.2
      refine ev_neg (by simp) ?_
      by_cases h1 : (a.size : Int) < (b.size : Int)
      · refine ev_pos h1 (ev_now ?_)
        unfold cmpI
        rw [if_pos (longer da hn.2 (by omega) (by omega))]
      · refine ev_neg h1 ?_
        by_cases h2 : (a.size : Int) > (b.size : Int)
        · refine ev_pos h2 (ev_now ?_)
          have := longer db hn.1 (by omega) (by omega)
          unfold cmpI
          rw [if_neg (by omega), if_pos this]
        · refine ev_neg h2 (ev_bind (Ev.now _) (ev_now ?_))
          rw [← cmp_same a b (by omega) da db, toList_data, toList_data, compareBytes_eq]
  unfold num_Compare.f
  refine ev_bind (is_ev a ha) ?_
  by_cases h1 : isNum (bytesOf a) = true
  · refine ev_pos h1 (ev_bind (is_ev b hb) (hj _ ?_))
    rw [h1, Bool.true_and]
  · refine ev_neg h1 (hj _ ?_)
    rw [Bool.not_eq_true] at h1
    rw [h1]
    rfl

theorem zero_bs (s : ByteArray) : bytesOf ((⟨#[48]⟩ : ByteArray) ++ s) = 48 :: bytesOf s := by rw [bs_append]; rfl
theorem zero_size (s : ByteArray) : ((⟨#[48]⟩ : ByteArray) ++ s).size = s.size + 1 := by rw [← bs_length, zero_bs, List.length_cons, bs_length]
theorem zero_val (l : List Int) : val (48 :: l) = val l := by rw [val_cons]; simp
theorem zero_isd {l : List Int} (h : ∀ c ∈ l, isd c = true) : ∀ c ∈ (48 :: l : List Int), isd c = true := by
  intro c hc
  rcases List.mem_cons.mp hc with rfl | hc
  · decide
  · exact h c hc
theorem ref_l1 (x0 : ByteArray) (h0 : x0.size ≤ 140737488351232) (d0 : ∀ c ∈ bytesOf x0, isd c = true) (d : Nat) : ∀ x1 : ByteArray, x0.size - x1.size = d → x1.size ≤ x0.size → (∀ c ∈ bytesOf x1, isd c = true) →
    Ev (fun k => ferruleref01_Compare.l1 k x0 x1) (cmpI (val (bytesOf x0)) (val (bytesOf x1))) := by
  induction d with
  | zero =>
    intro x1 hd hle d1
    refine Ev.step (fun k => by rw [ferruleref01_Compare.l1]) (ev_neg (by omega) ?_)
    rw [← cmp_same x0 x1 (by omega) d0 d1]
    by_cases h1 : (Op.bytesLess x0.toList x1.toList) = true
    · refine ev_pos h1 (ev_now ?_); rw [if_pos h1]
    · refine ev_neg h1 ?_
      by_cases h2 : (Op.bytesLess x1.toList x0.toList) = true
      · refine ev_pos h2 (ev_now ?_); rw [if_neg h1, if_pos h2]
      · refine ev_neg h2 (ev_now ?_); rw [if_neg h1, if_neg h2]
  | succ d ih =>
    intro x1 hd hle d1
    refine Ev.step (fun k => by rw [ferruleref01_Compare.l1]) (ev_pos (by omega) (ev_pos (by omega) ?_))
    have := ih ((⟨#[48]⟩ : ByteArray) ++ x1) (by rw [zero_size]; omega) (by rw [zero_size]; omega) (by rw [zero_bs]; exact zero_isd d1)
    rw [zero_bs, zero_val] at this
    exact this
theorem ref_l0 (x1 : ByteArray) (h0 : x1.size ≤ 140737488351232) (d1 : ∀ c ∈ bytesOf x1, isd c = true) (d : Nat) : ∀ x0 : ByteArray, x1.size - x0.size = d → x0.size ≤ 140737488351232 → (∀ c ∈ bytesOf x0, isd c = true) →
    Ev (fun k => ferruleref01_Compare.l0 k x0 x1) (cmpI (val (bytesOf x0)) (val (bytesOf x1))) := by
  induction d with
  | zero =>
    intro x0 hd hb d0
    refine Ev.step (fun k => by rw [ferruleref01_Compare.l0]) (ev_neg (by omega) ?_)
    exact ref_l1 x0 hb d0 _ x1 rfl (by omega) d1
  | succ d ih =>
    intro x0 hd hb d0
    refine Ev.step (fun k => by rw [ferruleref01_Compare.l0]) (ev_pos (by omega) (ev_pos (by omega) ?_))
    have := ih ((⟨#[48]⟩ : ByteArray) ++ x0) (by rw [zero_size]; omega) (by rw [zero_size]; omega) (by rw [zero_bs]; exact zero_isd d0)
    rw [zero_bs, zero_val] at this
    exact this
theorem refcompare_ev (a b : ByteArray) (ha : a.size ≤ 140737488351232) (hb : b.size ≤ 140737488351232) : Ev (fun k => ferruleref01_Compare.f k a b) (cmpN (bytesOf a) (bytesOf b)) := by
  have hj : ∀ c, c = !(isNum (bytesOf a) && isNum (bytesOf b)) → Ev (fun k => ferruleref01_Compare.j0 k a b c) (cmpN (bytesOf a) (bytesOf b)) := by
    intro c hc
    refine Ev.step (fun k => by rw [ferruleref01_Compare.j0]) ?_
    unfold cmpN
    cases c with
    | true =>
      refine ev_pos rfl (ev_now ?_)
      rw [if_neg (by intro h; rw [h] at hc; cases hc)]
    | false =>
      have hn : (isNum (bytesOf a) && isNum (bytesOf b)) = true := by simpa using hc
      rw [if_pos hn]
      rw [Bool.and_eq_true] at hn
      exact ev_neg (by simp) (ref_l0 b hb (num_digits hn.2).1 _ a rfl ha (num_digits hn.1).1)
  unfold ferruleref01_Compare.f
  refine ev_bind (refis_ev a ha) ?_
  by_cases h1 : isNum (bytesOf a) = true
  · refine ev_pos h1 (ev_bind (refis_ev b hb) (hj _ ?_))
    rw [h1, Bool.true_and]
  · refine ev_neg h1 (hj _ ?_)
    rw [Bool.not_eq_true] at h1
    rw [h1]
    rfl
end Go.Proofs.Ytaocceijkiiciaa.Cmp01
