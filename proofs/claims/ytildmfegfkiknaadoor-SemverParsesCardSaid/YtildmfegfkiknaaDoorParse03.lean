/- The version at a place of bytes: the program's function comes to a plain one of what stands there. -/
import Derived.Test.YtildmfegfkiknaaDoorRow02
import Derived.Test.YtildmfegfkiknaaDoorNum
import Derived.Test.YtildmfegfkiknaaDoorXn33
namespace Go.Proofs.YtildmfegfkiknaaDoor.Parse03
open Go.RowKit Go.Proofs.YtildmfegfkiknaaDoorW.PrintWords Go.Proofs.YtildmfegfkiknaaDoorW.PrintMore Go.Proofs.YtildmfegfkiknaaDoor.Aid Go.Proofs.YtildmfegfkiknaaDoor.Digits Go.Proofs.YtildmfegfkiknaaDoor.X Go.Proofs.YtildmfegfkiknaaDoor.Row02

theorem np_drop (l : List Int) (a : Nat) (ha : a ≤ l.length) : np l (a : Int) = np (l.drop a) 0 := by
  unfold np
  rw [show ((a : Int)).toNat = a by omega, show (0 : Int).toNat = 0 from rfl, List.drop_zero, if_neg (show ¬ ((a : Int) < 0 ∨ (l.length : Int) < (a : Int)) by omega), if_neg (show ¬ ((0 : Int) < 0 ∨ ((l.drop a).length : Int) < 0) by omega)]
theorem np_le (d : List Int) : 0 ≤ (np d 0).2.1 ∧ (np d 0).2.1 ≤ d.length := by
  have h := run_le d
  unfold np
  rw [show (0 : Int).toNat = 0 from rfl, List.drop_zero]
  (repeat' split) <;> simp only <;> omega
abbrev Ver := Int × Int × Int × List ByteArray × List ByteArray × Int × Int
def no (o e : Int) : Ver := (0, 0, 0, [], [], o, e)
/-- A row behind a mark, if that stands there. -/
def rowS : List Int → Int → List ByteArray × Int × Int
  | [], _ => ([], 0, 0)
  | c :: t, m => if c = m then ((rowP t 0 (m == 45)).1, 1 + (rowP t 0 (m == 45)).2.1, (rowP t 0 (m == 45)).2.2) else ([], 0, 0)
def endS (d : List Int) (o x1 x2 x3 : Int) : Ver :=
  if (rowS d 45).2.2 = 0 then
    (if (rowS (d.drop (rowS d 45).2.1.toNat) 43).2.2 = 0 then (x1, x2, x3, (rowS d 45).1, (rowS (d.drop (rowS d 45).2.1.toNat) 43).1, o + (rowS d 45).2.1 + (rowS (d.drop (rowS d 45).2.1.toNat) 43).2.1, 0)
    else no (o + (rowS d 45).2.1 + (rowS (d.drop (rowS d 45).2.1.toNat) 43).2.1) (rowS (d.drop (rowS d 45).2.1.toNat) 43).2.2)
  else no (o + (rowS d 45).2.1) (rowS d 45).2.2
def p2 (d : List Int) (o m0 m1 : Int) : Ver := if (np d 0).2.2 = 0 then endS (d.drop (np d 0).2.1.toNat) (o + (np d 0).2.1) m0 m1 (np d 0).1 else no o (np d 0).2.2
def p1 (d : List Int) (o m0 : Int) : Ver :=
  if (np d 0).2.2 = 0 then
    (if (np d 0).2.1 = (d.length : Int) then no (o + (np d 0).2.1) 2 else
     if rd d (np d 0).2.1 = 46 then p2 (d.drop ((np d 0).2.1.toNat + 1)) (o + (np d 0).2.1 + 1) m0 (np d 0).1 else no (o + (np d 0).2.1) 3)
  else no o (np d 0).2.2
def p0 (d : List Int) (o : Int) : Ver :=
  if (np d 0).2.2 = 0 then
    (if (np d 0).2.1 = (d.length : Int) then no (o + (np d 0).2.1) 2 else
     if rd d (np d 0).2.1 = 46 then p1 (d.drop ((np d 0).2.1.toNat + 1)) (o + (np d 0).2.1 + 1) (np d 0).1 else no (o + (np d 0).2.1) 3)
  else no o (np d 0).2.2
/-- The version at a place. -/
def parseP (b : List Int) (a : Int) : Ver := if a < 0 ∨ (b.length : Int) < a then no 0 1 else p0 (b.drop a.toNat) a

theorem rowP_drop (b : List Int) (n : Nat) (h : n ≤ b.length) (pre : Bool) : rowP b (n : Int) pre = rowP (b.drop n) 0 pre := by
  unfold rowP
  rw [if_neg (by omega), if_neg (by omega), show ((n : Int)).toNat = n by omega, show (0 : Int).toNat = 0 from rfl, List.drop_zero]
theorem rowP_n (d : List Int) (pre : Bool) : 0 ≤ (rowP d 0 pre).2.1 ∧ (rowP d 0 pre).2.1 ≤ d.length := by
  unfold rowP
  rw [if_neg (by omega), show (0 : Int).toNat = 0 from rfl, List.drop_zero]
  have := go_n pre d [] [] 0 (Int.le_refl 0)
  omega
theorem rowP_l (d : List Int) (pre : Bool) : (rowP d 0 pre).1.length ≤ d.length + 1 := by
  unfold rowP
  rw [if_neg (by omega), show (0 : Int).toNat = 0 from rfl, List.drop_zero]
  have := go_len pre d [] [] 0
  simp at this
  omega
theorem rowS_n (d : List Int) (m : Int) : 0 ≤ (rowS d m).2.1 ∧ (rowS d m).2.1 ≤ d.length := by
  cases d with
  | nil => simp [rowS]
  | cons c t =>
    simp only [rowS]
    split
    · have := rowP_n t (m == 45)
      simp only [List.length_cons]
      omega
    · simp only [List.length_cons]; omega
theorem rowS_l (d : List Int) (m : Int) : (rowS d m).1.length ≤ d.length + 1 := by
  cases d with
  | nil => simp [rowS]
  | cons c t =>
    simp only [rowS]
    split
    · have := rowP_l t (m == 45)
      simp only [List.length_cons]
      omega
    · simp
theorem row_ev (b : List Int) (hb : ∀ x ∈ b, 0 ≤ x ∧ x < 256) (hl : b.length ≤ 1000000000) (n : Nat) (hn : n ≤ b.length) (m : Int) :
    Ev (fun k => semver_row.f k b (n : Int) m) ((rowS (b.drop n) m).1, (n : Int) + (rowS (b.drop n) m).2.1, (rowS (b.drop n) m).2.2) := by
  unfold semver_row.f
  by_cases h1 : (n : Int) ≥ (b.length : Int)
  · refine ev_pos h1 (ev_now ?_)
    rw [List.drop_eq_nil_of_le (by omega)]
    simp [rowS]
  · have hlt : n < b.length := by omega
    refine ev_neg h1 (ev_pos (by omega) (ev_pos (by omega) ?_))
    rw [List.drop_eq_getElem_cons hlt, rd_get b n hlt, rowS]
    by_cases h2 : b[n] = m
    · refine ev_pos h2 ?_
      rw [if_pos h2, wrap64_in (by omega) (by omega), show (n : Int) + 1 = ((n + 1 : Nat) : Int) by omega]
      refine ev_bind (Row02.row_ev b hb hl _ _) (ev_now ?_)
      rw [rowP_drop b (n + 1) (by omega)]
      have := rowP_n (b.drop (n + 1)) (m == 45)
      rw [List.length_drop] at this
      rw [wrap64_in (by omega) (by omega), show ((n + 1 : Nat) : Int) + (rowP (b.drop (n + 1)) 0 (m == 45)).2.1 = (n : Int) + (1 + (rowP (b.drop (n + 1)) 0 (m == 45)).2.1) by omega]
    · refine ev_neg h2 (ev_now ?_)
      rw [if_neg h2]
      simp

theorem rd_drop (b : List Int) (n : Nat) (i : Int) (hi : 0 ≤ i) : rd b ((n : Int) + i) = rd (b.drop n) i := by
  unfold rd
  rw [List.getD_eq_getElem?_getD, List.getD_eq_getElem?_getD, List.getElem?_drop, show ((n : Int) + i).toNat = n + i.toNat by omega]
section
variable (b : List Int) (hb : ∀ x ∈ b, 0 ≤ x ∧ x < 256) (hl : b.length ≤ 1000000000)
include hb hl
theorem rows_ev (n : Nat) (hn : n ≤ b.length) (x1 x2 x3 : Int) :
    Ev (fun k => (semver_row.f k b (n : Int) 45).bind fun bt133 => (if bt133.2.2 = 0 then ((semver_row.f k b bt133.2.1 43).bind fun bt138 => (if bt138.2.2 = 0 then (some (x1, x2, x3, bt133.1, bt138.1, bt138.2.1, (0 : Int))) else (some ((0 : Int), (0 : Int), (0 : Int), ([] : List ByteArray), ([] : List ByteArray), bt138.2.1, bt138.2.2)))) else (some ((0 : Int), (0 : Int), (0 : Int), ([] : List ByteArray), ([] : List ByteArray), bt133.2.1, bt133.2.2))))
      (endS (b.drop n) (n : Int) x1 x2 x3) := by
  have hr := rowS_n (b.drop n) 45
  rw [List.length_drop] at hr
  refine ev_bind (row_ev b hb hl n hn 45) ?_
  unfold endS
  by_cases h1 : (rowS (b.drop n) 45).2.2 = 0
  · refine ev_pos h1 ?_
    rw [if_pos h1]
    have e := row_ev b hb hl (n + (rowS (b.drop n) 45).2.1.toNat) (by omega) 43
    rw [show ((n + (rowS (b.drop n) 45).2.1.toNat : Nat) : Int) = (n : Int) + (rowS (b.drop n) 45).2.1 by omega, ← List.drop_drop] at e
    refine ev_bind e ?_
    by_cases h2 : (rowS ((b.drop n).drop (rowS (b.drop n) 45).2.1.toNat) 43).2.2 = 0
    · refine ev_pos h2 (ev_now ?_)
      rw [if_pos h2]
    · refine ev_neg h2 (ev_now ?_)
      rw [if_neg h2]; rfl
  · refine ev_neg h1 (ev_now ?_)
    rw [if_neg h1]; rfl
theorem l2_ev (n : Nat) (hn : n ≤ b.length) (m0 m1 m2 : Int) : Ev (fun k => semver_Parse.l0 k b (n : Int) 2 0 0 0 m0 m1 m2) (p2 (b.drop n) (n : Int) m0 m1) := by
  have hp := Num.parse_ev (l := b) (a := (n : Int)) hb (by omega)
  rw [np_drop b n hn] at hp
  have hle := np_le (b.drop n)
  rw [List.length_drop] at hle
  refine Ev.step (fun k => by rw [semver_Parse.l0]) (ev_bind hp ?_)
  unfold p2
  by_cases h1 : (np (b.drop n) 0).2.2 = 0
  · refine ev_pos h1 (ev_neg (by omega) ?_)
    rw [if_pos h1]
    refine Ev.step (fun k => by rw [semver_Parse.j2]) (ev_neg (by simp) (ev_neg (by omega) ?_))
    refine Ev.step (fun k => by rw [semver_Parse.j3]) (ev_neg (by omega) (ev_neg (by omega) (ev_pos rfl (ev_neg (by omega) ?_))))
    rw [wrap64_in (by omega) (by omega)]
    have := rows_ev b hb hl (n + (np (b.drop n) 0).2.1.toNat) (by omega) m0 m1 (np (b.drop n) 0).1
    rw [show ((n + (np (b.drop n) 0).2.1.toNat : Nat) : Int) = (n : Int) + (np (b.drop n) 0).2.1 by omega, ← List.drop_drop] at this
    exact this
  · refine ev_neg h1 (ev_now ?_)
    rw [if_neg h1]; rfl
theorem l1_ev (n : Nat) (hn : n ≤ b.length) (m0 m1 m2 : Int) : Ev (fun k => semver_Parse.l0 k b (n : Int) 1 0 0 0 m0 m1 m2) (p1 (b.drop n) (n : Int) m0) := by
  have hp := Num.parse_ev (l := b) (a := (n : Int)) hb (by omega)
  rw [np_drop b n hn] at hp
  have hle := np_le (b.drop n)
  rw [List.length_drop] at hle
  refine Ev.step (fun k => by rw [semver_Parse.l0]) (ev_bind hp ?_)
  unfold p1
  by_cases h1 : (np (b.drop n) 0).2.2 = 0
  · refine ev_pos h1 (ev_pos (by omega) ?_)
    rw [if_pos h1, wrap64_in (by omega) (by omega)]
    refine Ev.step (fun k => by rw [semver_Parse.j2]) ?_
    rw [wrap64_in (by omega) (by omega)]
    by_cases h2 : (np (b.drop n) 0).2.1 = ((b.drop n).length : Int)
    · rw [if_pos h2]
      rw [List.length_drop] at h2
      rw [beq_iff_eq.mpr (show (n : Int) + (np (b.drop n) 0).2.1 = (b.length : Int) by omega)]
      exact ev_pos rfl (ev_now rfl)
    · rw [if_neg h2]
      rw [List.length_drop] at h2
      rw [beq_eq_false_iff_ne.mpr (show ¬ (n : Int) + (np (b.drop n) 0).2.1 = (b.length : Int) by omega)]
      refine ev_neg (by simp) (ev_pos (by omega) (ev_pos (by omega) (ev_pos (by omega) ?_)))
      rw [rd_drop b n _ hle.1]
      by_cases h3 : rd (b.drop n) (np (b.drop n) 0).2.1 = 46
      · refine ev_pos h3 ?_
        rw [if_pos h3]
        refine Ev.step (fun k => by rw [semver_Parse.j3]) (ev_neg (by omega) (ev_pos rfl (ev_pos (by omega) ?_)))
        rw [wrap64_in (x := (n : Int) + (np (b.drop n) 0).2.1) (by omega) (by omega), wrap64_in (x := (n : Int) + (np (b.drop n) 0).2.1 + 1) (by omega) (by omega), show wrap64 (1 + 1) = 2 from wrap64_in (by omega) (by omega)]
        have := l2_ev b hb hl (n + ((np (b.drop n) 0).2.1.toNat + 1)) (by omega) m0 (np (b.drop n) 0).1 m2
        rw [show ((n + ((np (b.drop n) 0).2.1.toNat + 1) : Nat) : Int) = (n : Int) + (np (b.drop n) 0).2.1 + 1 by omega, ← List.drop_drop] at this
        exact this
      · refine ev_neg h3 (ev_now ?_)
        rw [if_neg h3]; rfl
  · refine ev_neg h1 (ev_now ?_)
    rw [if_neg h1]; rfl
theorem l0_ev (n : Nat) (hn : n ≤ b.length) (m0 m1 m2 : Int) : Ev (fun k => semver_Parse.l0 k b (n : Int) 0 0 0 0 m0 m1 m2) (p0 (b.drop n) (n : Int)) := by
  have hp := Num.parse_ev (l := b) (a := (n : Int)) hb (by omega)
  rw [np_drop b n hn] at hp
  have hle := np_le (b.drop n)
  rw [List.length_drop] at hle
  refine Ev.step (fun k => by rw [semver_Parse.l0]) (ev_bind hp ?_)
  unfold p0
  by_cases h1 : (np (b.drop n) 0).2.2 = 0
  · refine ev_pos h1 (ev_pos (by omega) ?_)
    rw [if_pos h1, wrap64_in (by omega) (by omega)]
    refine Ev.step (fun k => by rw [semver_Parse.j2]) ?_
    rw [wrap64_in (by omega) (by omega)]
    by_cases h2 : (np (b.drop n) 0).2.1 = ((b.drop n).length : Int)
    · rw [if_pos h2]
      rw [List.length_drop] at h2
      rw [beq_iff_eq.mpr (show (n : Int) + (np (b.drop n) 0).2.1 = (b.length : Int) by omega)]
      exact ev_pos rfl (ev_now rfl)
    · rw [if_neg h2]
      rw [List.length_drop] at h2
      rw [beq_eq_false_iff_ne.mpr (show ¬ (n : Int) + (np (b.drop n) 0).2.1 = (b.length : Int) by omega)]
      refine ev_neg (by simp) (ev_pos (by omega) (ev_pos (by omega) (ev_pos (by omega) ?_)))
      rw [rd_drop b n _ hle.1]
      by_cases h3 : rd (b.drop n) (np (b.drop n) 0).2.1 = 46
      · refine ev_pos h3 ?_
        rw [if_pos h3]
        refine Ev.step (fun k => by rw [semver_Parse.j3]) (ev_pos rfl (ev_pos (by omega) ?_))
        rw [wrap64_in (x := (n : Int) + (np (b.drop n) 0).2.1) (by omega) (by omega), wrap64_in (x := (n : Int) + (np (b.drop n) 0).2.1 + 1) (by omega) (by omega), show wrap64 (0 + 1) = 1 from wrap64_in (by omega) (by omega)]
        have := l1_ev b hb hl (n + ((np (b.drop n) 0).2.1.toNat + 1)) (by omega) (np (b.drop n) 0).1 m1 m2
        rw [show ((n + ((np (b.drop n) 0).2.1.toNat + 1) : Nat) : Int) = (n : Int) + (np (b.drop n) 0).2.1 + 1 by omega, ← List.drop_drop] at this
        exact this
      · refine ev_neg h3 (ev_now ?_)
        rw [if_neg h3]; rfl
  · refine ev_neg h1 (ev_now ?_)
    rw [if_neg h1]; rfl
theorem parse_ev (a : Int) : Ev (fun k => semver_Parse.f k b a) (parseP b a) := by
  unfold semver_Parse.f parseP
  have hj1 : Ev (fun k => semver_Parse.j0 k b a true 0 0 0) (no 0 1) := by
    refine Ev.step (fun k => by rw [semver_Parse.j0]) ?_
    exact ev_pos rfl (Ev.now _)
  by_cases h1 : a < 0
  · refine ev_pos h1 ?_
    rw [if_pos (.inl h1)]; exact hj1
  · refine ev_neg h1 ?_
    by_cases h2 : a > (b.length : Int)
    · rw [decide_eq_true h2, if_pos (.inr h2)]; exact hj1
    · rw [decide_eq_false h2, if_neg (by omega)]
      refine Ev.step (fun k => by rw [semver_Parse.j0]) (ev_neg (by simp) ?_)
      have := l0_ev b hb hl a.toNat (by omega) 0 0 0
      rw [show ((a.toNat : Nat) : Int) = a by omega] at this
      exact this
end

/-- The same, so many places on. -/
def sh (c : Int) (v : Ver) : Ver := (v.1, v.2.1, v.2.2.1, v.2.2.2.1, v.2.2.2.2.1, v.2.2.2.2.2.1 + c, v.2.2.2.2.2.2)
theorem sh_no (c o e : Int) : no (o + c) e = sh c (no o e) := rfl
theorem endS_sh (c : Int) (d : List Int) (o x1 x2 x3 : Int) : endS d (o + c) x1 x2 x3 = sh c (endS d o x1 x2 x3) := by
  unfold endS
  split
  · split
    · simp only [sh, Prod.mk.injEq, true_and, and_true]; omega
    · rw [← sh_no]; congr 1; omega
  · rw [← sh_no]; congr 1; omega
theorem p2_sh (c : Int) (d : List Int) (o m0 m1 : Int) : p2 d (o + c) m0 m1 = sh c (p2 d o m0 m1) := by
  unfold p2
  split
  · rw [← endS_sh]; congr 1; omega
  · rfl
theorem p1_sh (c : Int) (d : List Int) (o m0 : Int) : p1 d (o + c) m0 = sh c (p1 d o m0) := by
  unfold p1
  split
  · split
    · rw [← sh_no]; congr 1; omega
    · split
      · rw [← p2_sh]; congr 1; omega
      · rw [← sh_no]; congr 1; omega
  · rfl
theorem p0_sh (c : Int) (d : List Int) (o : Int) : p0 d (o + c) = sh c (p0 d o) := by
  unfold p0
  split
  · split
    · rw [← sh_no]; congr 1; omega
    · split
      · rw [← p1_sh]; congr 1; omega
      · rw [← sh_no]; congr 1; omega
  · rfl
def few (n : Nat) (v : Ver) : Prop := v.2.2.2.1.length ≤ n ∧ v.2.2.2.2.1.length ≤ n
theorem few_no (n : Nat) (o e : Int) : few n (no o e) := ⟨Nat.zero_le _, Nat.zero_le _⟩
theorem endS_few (n : Nat) (d : List Int) (hd : d.length < n) (o x1 x2 x3 : Int) : few n (endS d o x1 x2 x3) := by
  have h1 := rowS_l d 45
  have h2 := rowS_l (d.drop (rowS d 45).2.1.toNat) 43
  rw [List.length_drop] at h2
  unfold endS
  split
  · split
    · exact ⟨by simp only; omega, by simp only; omega⟩
    · exact few_no _ _ _
  · exact few_no _ _ _
theorem p0_few (n : Nat) (d : List Int) (hd : d.length < n) (o : Int) : few n (p0 d o) := by
  unfold p0 p1 p2
  (repeat' split) <;> first | exact few_no _ _ _ | (refine endS_few n _ ?_ _ _ _ _; simp only [List.length_drop]; omega)
theorem endS_n (d : List Int) (o x1 x2 x3 : Int) (h : 0 ≤ o) : 0 ≤ (endS d o x1 x2 x3).2.2.2.2.2.1 ∧ (endS d o x1 x2 x3).2.2.2.2.2.1 ≤ o + d.length := by
  have h1 := rowS_n d 45
  have h2 := rowS_n (d.drop (rowS d 45).2.1.toNat) 43
  rw [List.length_drop] at h2
  unfold endS
  split
  · split
    · simp only; omega
    · simp only [no]; omega
  · simp only [no]; omega
theorem p2_n (d : List Int) (o m0 m1 : Int) (h : 0 ≤ o) : 0 ≤ (p2 d o m0 m1).2.2.2.2.2.1 ∧ (p2 d o m0 m1).2.2.2.2.2.1 ≤ o + d.length := by
  have hn := np_le d
  unfold p2
  split
  · have := endS_n (d.drop (np d 0).2.1.toNat) (o + (np d 0).2.1) m0 m1 (np d 0).1 (by omega)
    rw [List.length_drop] at this
    omega
  · simp only [no]; omega
theorem p1_n (d : List Int) (o m0 : Int) (h : 0 ≤ o) : 0 ≤ (p1 d o m0).2.2.2.2.2.1 ∧ (p1 d o m0).2.2.2.2.2.1 ≤ o + d.length := by
  have hn := np_le d
  unfold p1
  split
  · split
    · simp only [no]; omega
    · split
      · have := p2_n (d.drop ((np d 0).2.1.toNat + 1)) (o + (np d 0).2.1 + 1) m0 (np d 0).1 (by omega)
        rw [List.length_drop] at this
        omega
      · simp only [no]; omega
  · simp only [no]; omega
theorem p0_n (d : List Int) (o : Int) (h : 0 ≤ o) : 0 ≤ (p0 d o).2.2.2.2.2.1 ∧ (p0 d o).2.2.2.2.2.1 ≤ o + d.length := by
  have hn := np_le d
  unfold p0
  split
  · split
    · simp only [no]; omega
    · split
      · have := p1_n (d.drop ((np d 0).2.1.toNat + 1)) (o + (np d 0).2.1 + 1) (np d 0).1 (by omega)
        rw [List.length_drop] at this
        omega
      · simp only [no]; omega
  · simp only [no]; omega
end Go.Proofs.YtildmfegfkiknaaDoor.Parse03
