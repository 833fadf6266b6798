/- num.Parse and the document's Parse come to one plain function. -/
import Derived.Test.YtaocceijkiiciaaDoorDigits
import Derived.Test.YtaocceijkiiciaaDoorXn11
namespace Go.Proofs.YtaocceijkiiciaaDoor.Num
open Go.RowKit Go.Proofs.YtaocceijkiiciaaDoorW.PrintWords Go.Proofs.YtaocceijkiiciaaDoor.Aid Go.Proofs.YtaocceijkiiciaaDoor.Digits Go.Proofs.YtaocceijkiiciaaDoor.X

theorem digit_ev (c : Int) (h : 0 ≤ c ∧ c < 256) : num_digit.f c = some (isd c) := by
  unfold num_digit.f isd
  congr 1
  rw [← Bool.decide_and, decide_eq_decide]
  omega

theorem take_snoc (t : List Int) (n : Nat) (h : n < t.length) : t.take (n + 1) = t.take n ++ [t[n]] := by
  rw [List.take_succ_eq_append_getElem h]

/-- Of the program's loop: what it holds behind n digits. -/
structure Holds (t : List Int) (n : Nat) (v : Int) (large : Bool) : Prop where
  no : large = false → v = val (t.take n) ∧ val (t.take n) ≤ maxF
  yes : large = true → maxF < val (t.take n)

theorem Holds.step {t : List Int} {n : Nat} {v : Int} {large : Bool} (h : Holds t n v large) (hn : n < t.length) (hd : ∀ c ∈ t, isd c = true) (b : Bool)
    (hb : b = (large || decide (v > (9223372036854775807 - (t[n] - 48)) / 10))) :
    Holds t (n + 1) (IntKind.u64.wrap (IntKind.u64.wrap (10 * v) + (t[n] - 48) % 256)) b := by
  have hc := (isd_iff _).mp (hd t[n] (List.getElem_mem hn))
  have h0 := val_nonneg (t.take n) fun c hc => hd c (List.mem_of_mem_take hc)
  constructor
  · intro hf
    rw [hf] at hb
    have hb' := hb.symm
    rw [Bool.or_eq_false_iff] at hb'
    obtain ⟨h1, h2⟩ := hb'
    obtain ⟨hv, hm⟩ := h.no h1
    rw [decide_eq_false_iff_not] at h2
    rw [take_snoc t n hn, val_snoc, ← hv]
    unfold maxF at hm ⊢
    rw [wrapu64_in (x := 10 * v) (by omega) (by omega), wrapu64_in (by omega) (by omega)]
    constructor <;> omega
  · intro ht
    rw [ht] at hb
    rw [take_snoc t n hn, val_snoc]
    cases hl : large with
    | true => have := h.yes hl; unfold maxF at this ⊢; omega
    | false =>
      obtain ⟨hv, hm⟩ := h.no hl
      rw [hl, Bool.false_or] at hb
      have h2 := of_decide_eq_true hb.symm
      unfold maxF at hm ⊢
      omega

section
variable {l : List Int} {a : Int}
theorem parse_j3 (l : List Int) (a : Int) (ha : ¬ (a < 0 ∨ (l.length : Int) < a)) (v : Int) (large : Bool) (hh : Holds (run (l.drop a.toNat)) (run (l.drop a.toNat)).length v large)
    (h0 : (run (l.drop a.toNat)).length ≠ 0) (b : Bool) (hb : b = decide (1 < (run (l.drop a.toNat)).length ∧ rd (run (l.drop a.toNat)) 0 = 48)) :
    Ev (fun k => num_Parse.j3 k v ((run (l.drop a.toNat)).length : Int) large b) (np l a) := by
  unfold np
  rw [if_neg ha, if_neg h0]
  refine Ev.step (fun k => by rw [num_Parse.j3]) ?_
  cases b with
  | true =>
    have hb' := of_decide_eq_true hb.symm
    rw [if_pos hb']
    exact ev_pos rfl (Ev.now _)
  | false =>
    have hb' := of_decide_eq_false hb.symm
    rw [if_neg hb']
    refine ev_neg (by simp) ?_
    have e := List.take_length (l := run (l.drop a.toNat))
    cases large with
    | true =>
      have := hh.yes rfl
      rw [e] at this
      rw [if_pos this]
      exact ev_pos rfl (Ev.now _)
    | false =>
      obtain ⟨hv, hm⟩ := hh.no rfl
      rw [e] at hv hm
      rw [if_neg (show ¬ maxF < val (run (l.drop a.toNat)) by omega)]
      refine ev_neg (by simp) (ev_now ?_)
      rw [hv]

theorem rd_byte (hl : ∀ x ∈ l, 0 ≤ x ∧ x < 256) (i : Int) (h0 : 0 ≤ i) (h : i < l.length) : 0 ≤ rd l i ∧ rd l i < 256 := by
  rw [rd_of h0 h]; exact hl _ (List.getElem_mem _)

theorem parse_j2_end (ha : ¬ (a < 0 ∨ (l.length : Int) < a)) (v : Int) (large : Bool)
    (hh : Holds (run (l.drop a.toNat)) (run (l.drop a.toNat)).length v large) :
    Ev (fun k => num_Parse.j2 k l a v ((run (l.drop a.toNat)).length : Int) large false) (np l a) := by
  refine Ev.step (fun k => by rw [num_Parse.j2]) ?_
  refine ev_neg (by simp) ?_
  by_cases h0 : (run (l.drop a.toNat)).length = 0
  · refine ev_pos (by omega) (ev_now ?_)
    unfold np
    rw [if_neg ha, if_pos h0]
  · refine ev_neg (by omega) ?_
    have hr := run_rd l a (by omega) 0 (by omega)
    have e0 : rd l a = rd (run (l.drop a.toNat)) 0 := by
      have := hr.2
      rw [show a + ((0 : Nat) : Int) = a by omega] at this
      rw [this, rd_of (by omega) (by omega)]
      rfl
    by_cases h1 : ((run (l.drop a.toNat)).length : Int) > 1
    · refine ev_pos h1 (ev_pos (by omega) (ev_pos (by omega) ?_))
      refine parse_j3 l a ha v large hh h0 _ ?_
      rw [e0, Bool.eq_iff_iff, beq_iff_eq, decide_eq_true_eq]
      constructor
      · intro h; exact ⟨by omega, h⟩
      · intro h; exact h.2
    · refine ev_neg h1 ?_
      refine parse_j3 l a ha v large hh h0 _ ?_
      symm
      rw [decide_eq_false_iff_not]
      omega

theorem parse_l0 (hl : ∀ x ∈ l, 0 ≤ x ∧ x < 256) (hlen : l.length ≤ 140737488351232) (ha : ¬ (a < 0 ∨ (l.length : Int) < a)) (d : Nat) : ∀ (n : Nat) (v : Int) (large : Bool),
    (run (l.drop a.toNat)).length - n = d → n ≤ (run (l.drop a.toNat)).length → Holds (run (l.drop a.toNat)) n v large →
    Ev (fun k => num_Parse.l0 k l a v (n : Int) large) (np l a) := by
  have hrl : a + ((run (l.drop a.toNat)).length : Int) ≤ l.length := by
    have := run_le (l.drop a.toNat)
    rw [List.length_drop] at this
    omega
  induction d with
  | zero =>
    intro n v large hd hn hh
    obtain rfl : n = (run (l.drop a.toNat)).length := by omega
    refine Ev.step (fun k => by rw [num_Parse.l0]) ?_
    rw [wrap64_in (by omega) (by omega)]
    by_cases h : a + ((run (l.drop a.toNat)).length : Int) < l.length
    · refine ev_pos h (ev_pos (by omega) ?_)
      rw [digit_ev _ (rd_byte hl _ (by omega) h), run_stop l a (by omega) h]
      exact ev_bind (Ev.now _) (parse_j2_end ha v large hh)
    · exact ev_neg h (parse_j2_end ha v large hh)
  | succ d ih =>
    intro n v large hd hn hh
    have hlt : n < (run (l.drop a.toNat)).length := by omega
    obtain ⟨h1, h2⟩ := run_rd l a (by omega) n hlt
    have hdig := run_isd _ _ (List.getElem_mem hlt)
    have hc := (isd_iff _).mp hdig
    refine Ev.step (fun k => by rw [num_Parse.l0]) ?_
    rw [wrap64_in (by omega) (by omega)]
    refine ev_pos h1 (ev_pos (by omega) ?_)
    rw [digit_ev _ (rd_byte hl _ (by omega) h1), h2, hdig]
    refine ev_bind (Ev.now _) ?_
    refine Ev.step (fun k => by rw [num_Parse.j2]) ?_
    rw [wrap64_in (x := a + (n : Int)) (by omega) (by omega), wrap64_in (x := (n : Int) + 1) (by omega) (by omega)]
    refine ev_pos rfl (ev_pos (by omega) (ev_pos h1 ?_))
    rw [h2, show (((run (l.drop a.toNat))[n] - 48) % 256) = (run (l.drop a.toNat))[n] - 48 by omega]
    have hstep := fun b hb => hh.step hlt (run_isd _) b hb
    rw [show (((run (l.drop a.toNat))[n] - 48) % 256) = (run (l.drop a.toNat))[n] - 48 by omega] at hstep
    have ec : ((n : Int) + 1) = ((n + 1 : Nat) : Int) := by omega
    rw [ec]
    cases large with
    | true => exact ev_pos rfl (ih (n + 1) _ true (by omega) (by omega) (hstep true (by simp)))
    | false => exact ev_neg (by simp) (ih (n + 1) _ _ (by omega) (by omega) (hstep _ (by simp)))

/-- The program's Parse. -/
theorem parse_ev (hl : ∀ x ∈ l, 0 ≤ x ∧ x < 256) (hlen : l.length ≤ 140737488351232) : Ev (fun k => num_Parse.f k l a) (np l a) := by
  unfold num_Parse.f
  by_cases h1 : a < 0
  · refine ev_pos h1 (Ev.step (fun k => by rw [num_Parse.j0]) (ev_pos rfl (ev_now ?_)))
    unfold np
    rw [if_pos (.inl h1)]
  · refine ev_neg h1 (Ev.step (fun k => by rw [num_Parse.j0]) ?_)
    by_cases h2 : a > (l.length : Int)
    · rw [decide_eq_true h2]
      refine ev_pos rfl (ev_now ?_)
      unfold np
      rw [if_pos (.inr h2)]
    · rw [decide_eq_false h2]
      refine ev_neg (by simp) ?_
      exact parse_l0 hl hlen (by omega) _ 0 0 false rfl (by omega) ⟨fun _ => by simp [val, maxF], fun h => by cases h⟩
end
end Go.Proofs.YtaocceijkiiciaaDoor.Num
