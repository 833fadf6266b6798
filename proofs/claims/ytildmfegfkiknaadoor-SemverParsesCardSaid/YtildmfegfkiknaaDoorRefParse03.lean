/- The version at a place of a text, as the document says: the same plain function. -/
import Derived.Test.YtildmfegfkiknaaDoorParse03
import Derived.Test.YtildmfegfkiknaaDoorRef01
import Derived.Test.YtildmfegfkiknaaDoorXn34
namespace Go.Proofs.YtildmfegfkiknaaDoor.RefParse03
open Go.RowKit Go.Proofs.YtildmfegfkiknaaDoorW.PrintWords Go.Proofs.YtildmfegfkiknaaDoorW.PrintMore Go.Proofs.YtildmfegfkiknaaDoor.Aid Go.Proofs.YtildmfegfkiknaaDoor.Digits Go.Proofs.YtildmfegfkiknaaDoor.X Go.Proofs.YtildmfegfkiknaaDoor.Row02 Go.Proofs.YtildmfegfkiknaaDoor.Parse03

theorem go_err (pre : Bool) (r : List Int) : ∀ (w : List Int) (l : List ByteArray) (n : Int), (go pre r w l n).2.2 ≠ 0 → (go pre r w l n).2.1 = 0 := by
  induction r with
  | nil =>
    intro w l n
    unfold go
    split
    · intro h; exact absurd rfl h
    · intro _; rfl
  | cons c r ih =>
    intro w l n
    unfold go
    split
    · exact ih _ _ _
    · split
      · split
        · exact ih _ _ _
        · intro h; exact absurd rfl h
      · intro _; rfl
theorem rowP_err (d : List Int) (pre : Bool) (h : (rowP d 0 pre).2.2 ≠ 0) : (rowP d 0 pre).2.1 = 0 := by
  unfold rowP at h ⊢
  rw [if_neg (by omega)] at h ⊢
  exact go_err _ _ _ _ _ h

theorem s_size (b : List Int) (hb : ∀ x ∈ b, 0 ≤ x ∧ x < 256) : (strOfNums b).size = b.length := by rw [← bs_length, bs_ofNums b hb]
theorem s_bt (b : List Int) (hb : ∀ x ∈ b, 0 ≤ x ∧ x < 256) (i : Int) : bt (strOfNums b) i = rd b i := by rw [bt_bs, bs_ofNums b hb]
section
variable (b : List Int) (hb : ∀ x ∈ b, 0 ≤ x ∧ x < 256) (hl : b.length ≤ 1000000000)
include hb hl
theorem num_ev (n : Nat) (hn : n ≤ b.length) : Ev (fun k => ferruleref01_Parse.f k (strOfNums b) (n : Int)) (np (b.drop n) 0) := by
  have := Ref01.parse_ev (s := strOfNums b) (a := (n : Int)) (by rw [s_size b hb]; omega)
  rw [bs_ofNums b hb, np_drop b n hn] at this
  exact this
theorem rowR (n : Nat) (hn : n ≤ b.length) (pre : Bool) : Ev (fun k => ferruleref02_Row.f k (strOfNums b) (n : Int) pre) (rowP (b.drop n) 0 pre) := by
  have := refrow_ev b hb hl (n : Int) pre
  rw [rowP_drop b n hn] at this
  exact this
/-- What a mark's row comes to. -/
theorem j4_ev (n : Nat) (hn : n ≤ b.length) (m0 m1 m2 : Int) (l : List ByteArray) : Ev (fun k => ferruleref03_Parse.j3 k (strOfNums b) (n : Int) m0 m1 m2 l)
    (if (rowS (b.drop n) 43).2.2 = 0 then (m0, m1, m2, l, (rowS (b.drop n) 43).1, (n : Int) + (rowS (b.drop n) 43).2.1, 0) else no ((n : Int) + (rowS (b.drop n) 43).2.1) (rowS (b.drop n) 43).2.2) := by
  have hsz := s_size b hb
  refine Ev.step (fun k => by rw [ferruleref03_Parse.j3]) ?_
  have hno : Ev (fun k => ferruleref03_Parse.j4 k (strOfNums b) (n : Int) false m0 m1 m2 l) (m0, m1, m2, l, [], (n : Int), 0) := by
    refine Ev.step (fun k => by rw [ferruleref03_Parse.j4]) ?_
    exact ev_neg (by simp) (Ev.now _)
  by_cases h1 : n < b.length
  · refine ev_pos (by omega) (ev_pos (by omega) ?_)
    rw [s_bt b hb, rd_get b n h1, List.drop_eq_getElem_cons h1, rowS]
    by_cases h2 : b[n] = 43
    · rw [if_pos h2, beq_iff_eq.mpr h2]
      refine Ev.step (fun k => by rw [ferruleref03_Parse.j4]) (ev_pos rfl ?_)
      rw [wrap64_in (by omega) (by omega), show (n : Int) + 1 = ((n + 1 : Nat) : Int) by omega]
      refine ev_bind (rowR b hb hl (n + 1) (by omega) false) ?_
      rw [show ((43 : Int) == 45) = false from rfl]
      have hr := rowP_n (b.drop (n + 1)) false
      rw [List.length_drop] at hr
      by_cases h3 : (rowP (b.drop (n + 1)) 0 false).2.2 = 0
      · refine ev_pos h3 (ev_now ?_)
        rw [if_pos h3, wrap64_in (by omega) (by omega), show ((n + 1 : Nat) : Int) + (rowP (b.drop (n + 1)) 0 false).2.1 = (n : Int) + (1 + (rowP (b.drop (n + 1)) 0 false).2.1) by omega]
      · refine ev_neg h3 (ev_now ?_)
        rw [if_neg h3, rowP_err _ _ h3]; rfl
    · rw [if_neg h2, beq_eq_false_iff_ne.mpr h2, if_pos rfl]
      simpa using hno
  · refine ev_neg (by omega) ?_
    rw [List.drop_eq_nil_of_le (by omega), rowS, if_pos rfl]
    simpa using hno
theorem end_ev (n : Nat) (hn : n ≤ b.length) (m0 m1 m2 : Int) : Ev (fun k => ferruleref03_Parse.l0 k (strOfNums b) (n : Int) 3 m0 m1 m2) (endS (b.drop n) (n : Int) m0 m1 m2) := by
  have hsz := s_size b hb
  refine Ev.step (fun k => by rw [ferruleref03_Parse.l0]) (ev_neg (by omega) ?_)
  have hno : rowS (b.drop n) 45 = ([], 0, 0) → Ev (fun k => ferruleref03_Parse.j2 k (strOfNums b) (n : Int) false m0 m1 m2) (endS (b.drop n) (n : Int) m0 m1 m2) := by
    intro h
    refine Ev.step (fun k => by rw [ferruleref03_Parse.j2]) (ev_neg (by simp) ?_)
    have := j4_ev b hb hl n hn m0 m1 m2 []
    unfold endS
    rw [h]
    simpa using this
  by_cases h1 : n < b.length
  · refine ev_pos (by omega) (ev_pos (by omega) ?_)
    rw [s_bt b hb, rd_get b n h1]
    by_cases h2 : b[n] = 45
    · rw [beq_iff_eq.mpr h2]
      refine Ev.step (fun k => by rw [ferruleref03_Parse.j2]) (ev_pos rfl ?_)
      rw [wrap64_in (by omega) (by omega), show (n : Int) + 1 = ((n + 1 : Nat) : Int) by omega]
      refine ev_bind (rowR b hb hl (n + 1) (by omega) true) ?_
      have hr := rowP_n (b.drop (n + 1)) true
      rw [List.length_drop] at hr
      have he : rowS (b.drop n) 45 = ((rowP (b.drop (n + 1)) 0 true).1, 1 + (rowP (b.drop (n + 1)) 0 true).2.1, (rowP (b.drop (n + 1)) 0 true).2.2) := by
        rw [List.drop_eq_getElem_cons h1, rowS, if_pos h2]; rfl
      have herr := rowP_err (b.drop (n + 1)) true
      unfold endS
      rw [he]
      clear he
      generalize rowP (b.drop (n + 1)) 0 true = R at hr herr ⊢
      by_cases h3 : R.2.2 = 0
      · refine ev_pos h3 ?_
        simp only
        rw [if_pos h3, wrap64_in (by omega) (by omega)]
        have := j4_ev b hb hl (n + (1 + R.2.1).toNat) (by omega) m0 m1 m2 R.1
        rw [show ((n + (1 + R.2.1).toNat : Nat) : Int) = (n : Int) + (1 + R.2.1) by omega, ← List.drop_drop] at this
        rw [show ((n + 1 : Nat) : Int) + R.2.1 = (n : Int) + (1 + R.2.1) by omega]
        exact this
      · refine ev_neg h3 (ev_now ?_)
        simp only
        rw [if_neg h3, herr h3]; rfl
    · rw [beq_eq_false_iff_ne.mpr h2]
      refine hno ?_
      rw [List.drop_eq_getElem_cons h1, rowS, if_neg h2]
  · refine ev_neg (by omega) (hno ?_)
    rw [List.drop_eq_nil_of_le (by omega), rowS]
theorem two_ev (n : Nat) (hn : n ≤ b.length) (m0 m1 m2 : Int) : Ev (fun k => ferruleref03_Parse.l0 k (strOfNums b) (n : Int) 2 m0 m1 m2)
    (if (n : Int) = (b.length : Int) then no (n : Int) 2 else if rd b (n : Int) = 46 then p2 (b.drop (n + 1)) ((n : Int) + 1) m0 m1 else no (n : Int) 3) := by
  have hsz := s_size b hb
  refine Ev.step (fun k => by rw [ferruleref03_Parse.l0]) (ev_pos (by omega) (ev_pos (by omega) ?_))
  rw [hsz]
  by_cases h1 : (n : Int) = (b.length : Int)
  · rw [if_pos h1]; exact ev_pos h1 (Ev.now _)
  · rw [if_neg h1]
    refine ev_neg h1 (ev_pos (by omega) (ev_pos (by omega) ?_))
    rw [s_bt b hb]
    by_cases h2 : rd b (n : Int) = 46
    · rw [if_pos h2]
      refine ev_pos h2 ?_
      rw [wrap64_in (x := (n : Int) + 1) (by omega) (by omega), show (n : Int) + 1 = ((n + 1 : Nat) : Int) by omega]
      refine ev_bind (num_ev b hb hl (n + 1) (by omega)) ?_
      have hle := np_le (b.drop (n + 1))
      rw [List.length_drop] at hle
      unfold p2
      generalize np (b.drop (n + 1)) 0 = R at hle ⊢
      by_cases h3 : R.2.2 = 0
      · rw [if_pos h3]
        refine ev_pos h3 (ev_neg (by omega) (ev_neg (by omega) (ev_pos rfl ?_)))
        rw [wrap64_in (by omega) (by omega), show wrap64 (2 + 1) = 3 from wrap64_in (by omega) (by omega)]
        have := end_ev b hb hl (n + 1 + R.2.1.toNat) (by omega) m0 m1 R.1
        rw [show ((n + 1 + R.2.1.toNat : Nat) : Int) = ((n + 1 : Nat) : Int) + R.2.1 by omega, show b.drop (n + 1 + R.2.1.toNat) = (b.drop (n + 1)).drop R.2.1.toNat from (List.drop_drop ..).symm] at this
        exact this
      · rw [if_neg h3]
        exact ev_neg h3 (Ev.now _)
    · rw [if_neg h2]; exact ev_neg h2 (Ev.now _)
theorem one_ev (n : Nat) (hn : n ≤ b.length) (m0 m1 m2 : Int) : Ev (fun k => ferruleref03_Parse.l0 k (strOfNums b) (n : Int) 1 m0 m1 m2)
    (if (n : Int) = (b.length : Int) then no (n : Int) 2 else if rd b (n : Int) = 46 then p1 (b.drop (n + 1)) ((n : Int) + 1) m0 else no (n : Int) 3) := by
  have hsz := s_size b hb
  refine Ev.step (fun k => by rw [ferruleref03_Parse.l0]) (ev_pos (by omega) (ev_pos (by omega) ?_))
  rw [hsz]
  by_cases h1 : (n : Int) = (b.length : Int)
  · rw [if_pos h1]; exact ev_pos h1 (Ev.now _)
  · rw [if_neg h1]
    refine ev_neg h1 (ev_pos (by omega) (ev_pos (by omega) ?_))
    rw [s_bt b hb]
    by_cases h2 : rd b (n : Int) = 46
    · rw [if_pos h2]
      refine ev_pos h2 ?_
      rw [wrap64_in (x := (n : Int) + 1) (by omega) (by omega), show (n : Int) + 1 = ((n + 1 : Nat) : Int) by omega]
      refine ev_bind (num_ev b hb hl (n + 1) (by omega)) ?_
      have hle := np_le (b.drop (n + 1))
      rw [List.length_drop] at hle
      unfold p1
      generalize np (b.drop (n + 1)) 0 = R at hle ⊢
      by_cases h3 : R.2.2 = 0
      · rw [if_pos h3]
        refine ev_pos h3 (ev_neg (by omega) (ev_pos rfl ?_))
        rw [wrap64_in (by omega) (by omega), show wrap64 (1 + 1) = 2 from wrap64_in (by omega) (by omega)]
        have := two_ev b hb hl (n + 1 + R.2.1.toNat) (by omega) m0 R.1 m2
        rw [show ((n + 1 + R.2.1.toNat : Nat) : Int) = ((n + 1 : Nat) : Int) + R.2.1 by omega, Parse03.rd_drop b (n + 1) _ hle.1,
          show b.drop (n + 1 + R.2.1.toNat + 1) = (b.drop (n + 1)).drop (R.2.1.toNat + 1) from by rw [List.drop_drop, Nat.add_assoc]] at this
        have e : (((n + 1 : Nat) : Int) + R.2.1 = (b.length : Int)) ↔ (R.2.1 = ((b.drop (n + 1)).length : Int)) := by rw [List.length_drop]; omega
        simp only [e] at this
        exact this
      · rw [if_neg h3]
        exact ev_neg h3 (Ev.now _)
    · rw [if_neg h2]; exact ev_neg h2 (Ev.now _)
theorem zero_ev (n : Nat) (hn : n ≤ b.length) : Ev (fun k => ferruleref03_Parse.l0 k (strOfNums b) (n : Int) 0 0 0 0) (p0 (b.drop n) (n : Int)) := by
  refine Ev.step (fun k => by rw [ferruleref03_Parse.l0]) (ev_pos (by omega) (ev_neg (by omega) ?_))
  refine ev_bind (num_ev b hb hl n hn) ?_
  have hle := np_le (b.drop n)
  rw [List.length_drop] at hle
  unfold p0
  generalize np (b.drop n) 0 = R at hle ⊢
  by_cases h3 : R.2.2 = 0
  · rw [if_pos h3]
    refine ev_pos h3 (ev_pos rfl ?_)
    rw [wrap64_in (by omega) (by omega), show wrap64 (0 + 1) = 1 from wrap64_in (by omega) (by omega)]
    have := one_ev b hb hl (n + R.2.1.toNat) (by omega) R.1 0 0
    rw [show ((n + R.2.1.toNat : Nat) : Int) = (n : Int) + R.2.1 by omega, Parse03.rd_drop b n _ hle.1,
      show b.drop (n + R.2.1.toNat + 1) = (b.drop n).drop (R.2.1.toNat + 1) from by rw [List.drop_drop, Nat.add_assoc]] at this
    have e : ((n : Int) + R.2.1 = (b.length : Int)) ↔ (R.2.1 = ((b.drop n).length : Int)) := by rw [List.length_drop]; omega
    simp only [e] at this
    exact this
  · rw [if_neg h3]
    exact ev_neg h3 (Ev.now _)
theorem refparse_ev (a : Int) : Ev (fun k => ferruleref03_Parse.f k (strOfNums b) a) (parseP b a) := by
  have hsz := s_size b hb
  unfold ferruleref03_Parse.f parseP
  have hj1 : Ev (fun k => ferruleref03_Parse.j0 k (strOfNums b) a true) (no 0 1) := by
    refine Ev.step (fun k => by rw [ferruleref03_Parse.j0]) ?_
    exact ev_pos rfl (Ev.now _)
  by_cases h1 : a < 0
  · refine ev_pos h1 ?_
    rw [if_pos (.inl h1)]; exact hj1
  · refine ev_neg h1 ?_
    rw [hsz]
    by_cases h2 : a > (b.length : Int)
    · rw [decide_eq_true h2, if_pos (.inr h2)]; exact hj1
    · rw [decide_eq_false h2, if_neg (by omega)]
      refine Ev.step (fun k => by rw [ferruleref03_Parse.j0]) (ev_neg (by simp) ?_)
      have := zero_ev b hb hl a.toNat (by omega)
      rw [show ((a.toNat : Nat) : Int) = a by omega] at this
      exact this
end
end Go.Proofs.YtildmfegfkiknaaDoor.RefParse03
