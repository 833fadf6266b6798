/- The document's Parse (ferruleref01) comes to the same plain function. -/
import Derived.Test.YtildmfegfkiknaaDoorDigits
import Derived.Test.YtildmfegfkiknaaDoorXn61
namespace Go.Proofs.YtildmfegfkiknaaDoor.Ref01
open Go.RowKit Go.Proofs.YtildmfegfkiknaaDoorW.PrintWords Go.Proofs.YtildmfegfkiknaaDoor.Aid Go.Proofs.YtildmfegfkiknaaDoor.Digits Go.Proofs.YtildmfegfkiknaaDoor.X

def most : List Int := [57, 50, 50, 51, 51, 55, 50, 48, 51, 54, 56, 53, 52, 55, 55, 53, 56, 48, 55]
theorem most_val : val most = maxF := by decide
theorem most_isd : ∀ c ∈ most, isd c = true := by decide

/-- A numeral is held just if it has fewer than 19 digits, or 19 and is not above the greatest. -/
theorem held_iff (t : List Int) (hd : ∀ c ∈ t, isd c = true) (h0 : t.length ≠ 0) (hz : ¬ (1 < t.length ∧ rd t 0 = 48)) :
    maxF < val t ↔ (19 < t.length ∨ (t.length = 19 ∧ lessI most t = true)) := by
  have e19 : (10 : Int) ^ 19 = 10000000000000000000 := by decide
  have e18 : (10 : Int) ^ 18 = 1000000000000000000 := by decide
  constructor
  · intro h
    rcases Nat.lt_trichotomy t.length 19 with hl | hl | hl
    · exfalso
      have h1 := val_lt t hd
      have h2 : (10 : Int) ^ t.length ≤ 10 ^ 18 := pow_mono10 (by omega)
      unfold maxF at h
      omega
    · refine .inr ⟨hl, ?_⟩
      rw [less_val most t (by rw [hl]; rfl) most_isd hd, decide_eq_true_eq, most_val]
      exact h
    · exact .inl hl
  · rintro (h | ⟨hl, h⟩)
    · cases t with
      | nil => simp at h0
      | cons c t =>
        have hc : c ≠ 48 := fun e => hz ⟨by omega, by rw [e]; rfl⟩
        have h1 := val_ge c t hd hc
        have h2 : (10 : Int) ^ 19 ≤ 10 ^ t.length := pow_mono10 (by simp at h; omega)
        unfold maxF
        omega
    · rw [less_val most t (by rw [hl]; rfl) most_isd hd, decide_eq_true_eq, most_val] at h
      exact h

section
variable {s : ByteArray} {a : Int}
theorem l1_ev (t : ByteArray) (hd : ∀ c ∈ bytesOf t, isd c = true) (hm : val (bytesOf t) ≤ maxF) (hs : t.size ≤ 140737488351232) (d : Nat) : ∀ (n : Nat), t.size - n = d → n ≤ t.size →
    Ev (fun k => ferruleref01_Parse.l1 k t (val ((bytesOf t).take n)) (n : Int)) (val (bytesOf t), (t.size : Int), 0) := by
  have hlen := bs_length t
  induction d with
  | zero =>
    intro n hd' hn
    obtain rfl : n = t.size := by omega
    refine Ev.step (fun k => by rw [ferruleref01_Parse.l1]) (ev_neg (by omega) (ev_now ?_))
    rw [← hlen, List.take_length]
  | succ d ih =>
    intro n hd' hn
    have hlt : n < (bytesOf t).length := by omega
    have hc := (isd_iff _).mp (hd _ (List.getElem_mem hlt))
    have e : bt t (n : Int) = (bytesOf t)[n] := by rw [bt_bs, rd_of (by omega) (by omega)]; rfl
    refine Ev.step (fun k => by rw [ferruleref01_Parse.l1]) (ev_pos (by omega) (ev_pos (by omega) ?_))
    rw [e, wrap64_in (by omega) (by omega)]
    have hsn : val ((bytesOf t).take (n + 1)) = 10 * val ((bytesOf t).take n) + ((bytesOf t)[n] - 48) := by
      rw [List.take_succ_eq_append_getElem hlt, val_snoc]
    have h0 := val_nonneg ((bytesOf t).take n) fun c hc => hd c (List.mem_of_mem_take hc)
    have h1 : val ((bytesOf t).take (n + 1)) ≤ val (bytesOf t) := by
      have e2 := val_append ((bytesOf t).take (n + 1)) ((bytesOf t).drop (n + 1))
      rw [List.take_append_drop] at e2
      have h3 := val_nonneg ((bytesOf t).drop (n + 1)) fun c hc => hd c (List.mem_of_mem_drop hc)
      have h4 := val_nonneg ((bytesOf t).take (n + 1)) fun c hc => hd c (List.mem_of_mem_take hc)
      have h5 := pow_pos10 ((bytesOf t).drop (n + 1)).length
      have h6 : val ((bytesOf t).take (n + 1)) * 1 ≤ val ((bytesOf t).take (n + 1)) * 10 ^ ((bytesOf t).drop (n + 1)).length := Int.mul_le_mul_of_nonneg_left (by omega) h4
      omega
    unfold maxF at hm
    rw [wrapu64_in (x := 10 * _) (by omega) (by omega), show ((bytesOf t)[n] - 48) % 256 = (bytesOf t)[n] - 48 by omega, wrapu64_in (by omega) (by omega), ← hsn]
    have ec : ((n : Int) + 1) = ((n + 1 : Nat) : Int) := by omega
    rw [ec]
    exact ih (n + 1) (by omega) (by omega)

theorem j2_ev (hlen : s.size ≤ 140737488351232) (ha : ¬ (a < 0 ∨ ((bytesOf s).length : Int) < a)) :
    Ev (fun k => ferruleref01_Parse.j2 k s a (a + ((run ((bytesOf s).drop a.toNat)).length : Int))) (np (bytesOf s) a) := by
  have hl := bs_length s
  have hrl : a + ((run ((bytesOf s).drop a.toNat)).length : Int) ≤ s.size := by
    have := run_le ((bytesOf s).drop a.toNat)
    rw [List.length_drop] at this
    omega
  have hru := run_isd ((bytesOf s).drop a.toNat)
  have et : bytesOf (s.extract (a : Int).toNat (a + ((run ((bytesOf s).drop a.toNat)).length : Int)).toNat) = run ((bytesOf s).drop a.toNat) := by
    rw [bs_extract]
    have h1 := List.prefix_iff_eq_take.mp (run_prefix ((bytesOf s).drop a.toNat))
    conv => rhs; rw [h1]
    rw [List.drop_take]
    congr 1
    omega
  generalize hsx : s.extract (a : Int).toNat (a + ((run ((bytesOf s).drop a.toNat)).length : Int)).toNat = sx at et
  have hsz : sx.size = (run ((bytesOf s).drop a.toNat)).length := by rw [← bs_length, et]
  refine Ev.step (fun k => by rw [ferruleref01_Parse.j2]) (ev_pos (by omega) (ev_pos (by omega) (ev_pos hrl ?_)))
  rw [hsx]
  refine ev_bind (Ev.now _) ?_
  unfold np
  rw [if_neg ha]
  by_cases h0 : (run ((bytesOf s).drop a.toNat)).length = 0
  · rw [if_pos h0]
    refine ev_pos ?_ (Ev.now _)
    rw [toList_eq_iff, et]
    exact List.length_eq_zero_iff.mp h0
  · rw [if_neg h0]
    refine ev_neg ?_ ?_
    · rw [toList_eq_iff, et]
      intro h
      exact h0 (by rw [h]; rfl)
    · have j3 : ∀ b, b = decide (1 < (run ((bytesOf s).drop a.toNat)).length ∧ rd (run ((bytesOf s).drop a.toNat)) 0 = 48) →
          Ev (fun k => ferruleref01_Parse.j3 k sx b) (if 1 < (run ((bytesOf s).drop a.toNat)).length ∧ rd (run ((bytesOf s).drop a.toNat)) 0 = 48 then (0, 0, 3) else if maxF < val (run ((bytesOf s).drop a.toNat)) then (0, 0, 4) else (val (run ((bytesOf s).drop a.toNat)), ((run ((bytesOf s).drop a.toNat)).length : Int), 0)) := by
        intro b hb
        refine Ev.step (fun k => by rw [ferruleref01_Parse.j3]) ?_
        cases b with
        | true =>
          rw [if_pos (of_decide_eq_true hb.symm)]
          exact ev_pos rfl (Ev.now _)
        | false =>
          have hz := of_decide_eq_false hb.symm
          rw [if_neg hz]
          refine ev_neg (by simp) ?_
          have hh := held_iff (run ((bytesOf s).drop a.toNat)) hru h0 hz
          have j4 : ∀ b, b = decide (maxF < val (run ((bytesOf s).drop a.toNat))) →
              Ev (fun k => ferruleref01_Parse.j4 k sx b) (if maxF < val (run ((bytesOf s).drop a.toNat)) then (0, 0, 4) else (val (run ((bytesOf s).drop a.toNat)), ((run ((bytesOf s).drop a.toNat)).length : Int), 0)) := by
            intro b hb
            refine Ev.step (fun k => by rw [ferruleref01_Parse.j4]) ?_
            cases b with
            | true =>
              rw [if_pos (of_decide_eq_true hb.symm)]
              exact ev_pos rfl (Ev.now _)
            | false =>
              have hm := of_decide_eq_false hb.symm
              rw [if_neg hm]
              refine ev_neg (by simp) ?_
              have := l1_ev sx (by rw [et]; exact hru) (by rw [et]; omega) (by omega) _ 0 rfl (by omega)
              rw [et, hsz] at this
              simpa [val] using this
          by_cases h19 : (sx.size : Int) > 19
          · refine ev_pos h19 (j4 true ?_)
            symm
            rw [decide_eq_true_eq, hh]
            exact .inl (by omega)
          · refine ev_neg h19 ?_
            by_cases h20 : (sx.size : Int) = 19
            · refine ev_pos h20 (j4 _ ?_)
              rw [Bool.eq_iff_iff, decide_eq_true_eq, hh]
              have el : Op.bytesLess ([57, 50, 50, 51, 51, 55, 50, 48, 51, 54, 56, 53, 52, 55, 55, 53, 56, 48, 55] : List UInt8) sx.toList = lessI most (run ((bytesOf s).drop a.toNat)) := by
                rw [toList_data, less_map, ← et]
                rfl
              rw [el]
              constructor
              · intro h; exact .inr ⟨by omega, h⟩
              · rintro (h | ⟨_, h⟩)
                · omega
                · exact h
            · refine ev_neg h20 (j4 false ?_)
              symm
              rw [decide_eq_false_iff_not, hh]
              rintro (h | ⟨h, _⟩) <;> omega
      by_cases h1 : (sx.size : Int) > 1
      · refine ev_pos h1 (ev_pos (by omega) (j3 _ ?_))
        rw [Bool.eq_iff_iff, beq_iff_eq, decide_eq_true_eq, bt_bs, et]
        constructor
        · intro h; exact ⟨by omega, h⟩
        · intro h; exact h.2
      · refine ev_neg h1 (j3 _ ?_)
        symm
        rw [decide_eq_false_iff_not]
        omega

theorem l0_ev (hlen : s.size ≤ 140737488351232) (ha : ¬ (a < 0 ∨ ((bytesOf s).length : Int) < a)) (d : Nat) : ∀ (n : Nat), (run ((bytesOf s).drop a.toNat)).length - n = d → n ≤ (run ((bytesOf s).drop a.toNat)).length →
    Ev (fun k => ferruleref01_Parse.l0 k s a (a + (n : Int))) (np (bytesOf s) a) := by
  have hl := bs_length s
  have hrl : a + ((run ((bytesOf s).drop a.toNat)).length : Int) ≤ s.size := by
    have := run_le ((bytesOf s).drop a.toNat)
    rw [List.length_drop] at this
    omega
  induction d with
  | zero =>
    intro n hd hn
    obtain rfl : n = (run ((bytesOf s).drop a.toNat)).length := by omega
    refine Ev.step (fun k => by rw [ferruleref01_Parse.l0]) ?_
    by_cases h : a + ((run ((bytesOf s).drop a.toNat)).length : Int) < s.size
    · refine ev_pos h (ev_pos (by omega) ?_)
      have hst := run_stop (bytesOf s) a (by omega) (by omega)
      rw [bt_bs]
      unfold isd at hst
      rw [Bool.and_eq_false_iff, decide_eq_false_iff_not, decide_eq_false_iff_not] at hst
      by_cases h1 : rd (bytesOf s) (a + ((run ((bytesOf s).drop a.toNat)).length : Int)) ≥ 48
      · refine ev_pos h1 (ev_neg ?_ (j2_ev hlen ha))
        rcases hst with h2 | h2
        · exact absurd h1 h2
        · exact h2
      · exact ev_neg h1 (j2_ev hlen ha)
    · exact ev_neg h (j2_ev hlen ha)
  | succ d ih =>
    intro n hd hn
    have hlt : n < (run ((bytesOf s).drop a.toNat)).length := by omega
    obtain ⟨h1, h2⟩ := run_rd (bytesOf s) a (by omega) n hlt
    have hc := (isd_iff _).mp (run_isd _ _ (List.getElem_mem hlt))
    refine Ev.step (fun k => by rw [ferruleref01_Parse.l0]) (ev_pos (by omega) (ev_pos (by omega) ?_))
    rw [bt_bs, h2]
    refine ev_pos hc.1 (ev_pos hc.2 ?_)
    rw [wrap64_in (by omega) (by omega), show a + (n : Int) + 1 = a + ((n + 1 : Nat) : Int) by omega]
    exact ih (n + 1) (by omega) (by omega)

/-- The document's Parse. -/
theorem parse_ev (hlen : s.size ≤ 140737488351232) : Ev (fun k => ferruleref01_Parse.f k s a) (np (bytesOf s) a) := by
  have hl := bs_length s
  unfold ferruleref01_Parse.f
  by_cases h1 : a < 0
  · refine ev_pos h1 (Ev.step (fun k => by rw [ferruleref01_Parse.j0]) (ev_pos rfl (ev_now ?_)))
    unfold np
    rw [if_pos (.inl h1)]
  · refine ev_neg h1 (Ev.step (fun k => by rw [ferruleref01_Parse.j0]) ?_)
    by_cases h2 : a > (s.size : Int)
    · rw [decide_eq_true h2]
      refine ev_pos rfl (ev_now ?_)
      unfold np
      rw [if_pos (.inr (by omega))]
    · rw [decide_eq_false h2]
      refine ev_neg (by simp) ?_
      have := l0_ev hlen (by omega : ¬ (a < 0 ∨ ((bytesOf s).length : Int) < a)) _ 0 rfl (by omega)
      simpa using this
end
end Go.Proofs.YtildmfegfkiknaaDoor.Ref01
