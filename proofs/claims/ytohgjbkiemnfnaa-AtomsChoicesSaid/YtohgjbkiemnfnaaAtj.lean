/- Truths are those of a choice just if they are of one of all choices (ferrulelaw13.AtomsChoices): the walk of the law, by hand over the table's contracts. -/
import Derived.Test.YtohgjbkiemnfnaaAth
import Derived.Test.YtohgjbkiemnfnaaAts
namespace Go.Proofs.Ytohgjbkiemnfnaa.Ato
open Go Go.RowKit Go.Proofs.Ytohgjbkiemnfnaa.X Go.Proofs.Ytohgjbkiemnfnaa.Hlp Go.Proofs.YtohgjbkiemnfnaaW.PrintWords Go.Proofs.YtohgjbkiemnfnaaW.PrintLast Go.Proofs.YtohgjbkiemnfnaaW.PrintMore Go.Proofs.Ytohgjbkiemnfnaa.Aid
attribute [local go_sem] max2_int min2_int max_two min_two
set_option linter.unusedVariables false
set_option linter.unusedSimpArgs false
theorem sameg_l0 (a b : List Bool) (hab : a.length = b.length) (ha : a.length ≤ 1000000000) : ∀ d i : Nat, a.length - i = d → i ≤ a.length → a.take i = b.take i → Ev (fun k => ferruleref13_Same.l0 k a b (i : Int)) (decide (a = b)) := by
  intro d
  induction d with
  | zero =>
    intro i hd hi h
    refine Ev.step (fun k => by rw [ferruleref13_Same.l0]) (ev_neg (by omega) (ev_now ?_))
    rw [List.take_of_length_le (by omega), List.take_of_length_le (by omega)] at h
    rw [decide_eq_true h]
  | succ d ih =>
    intro i hd hi h
    have hla : i < a.length := by omega
    have hlb : i < b.length := by omega
    have e1 : rdOf false a (i : Int) = a[i] := by unfold rdOf; simp [List.getD, hla]
    have e2 : rdOf false b (i : Int) = b[i] := by unfold rdOf; simp [List.getD, hlb]
    refine Ev.step (fun k => by rw [ferruleref13_Same.l0]) (ev_pos (by omega) (ev_pos (by omega) (ev_pos (by omega) ?_)))
    rw [e1, e2]
    by_cases hr : a[i] = b[i]
    · refine ev_neg (by simp [hr]) ?_
      rw [wrap64_in (by omega) (by omega), show (i : Int) + 1 = ((i + 1 : Nat) : Int) by omega]
      refine ih (i + 1) (by omega) (by omega) ?_
      rw [List.take_succ_eq_append_getElem hla, List.take_succ_eq_append_getElem hlb, h, hr]
    · refine ev_pos (by simpa using hr) (ev_now ?_)
      rw [decide_eq_false]
      rintro rfl
      exact hr rfl
theorem sameg_ev (a b : List Bool) (ha : a.length ≤ 1000000000) : ∃ k, ferruleref13_Same.f k a b = some (decide (a = b)) := by
  by_cases hab : a.length = b.length
  · obtain ⟨k, hk⟩ := (sameg_l0 a b hab ha _ 0 rfl (Nat.zero_le _) (by simp)).rounds
    exact ⟨k, by unfold ferruleref13_Same.f; rw [if_pos (by omega)]; exact hk⟩
  · exact ⟨0, by unfold ferruleref13_Same.f; rw [if_neg (by omega), decide_eq_false (by rintro rfl; exact hab rfl)]⟩
theorem row_at {W : World} {A : Option Addr} {xs : List (List Int)} (h : (Kd.slice 3 (Kd.int .i64)).C W A xs.length xs) (i : Nat) (hi : i < xs.length) :
    ∃ ad p c, A = some ad ∧ W.cell? (ad.add i) = some (.slice p xs[i].length c) ∧ xs[i].length ≤ c ∧ Kd.C (Kd.int .i64) W p xs[i].length xs[i] := by
  obtain ⟨ad, rfl, hc⟩ := h.2.2 (by omega)
  obtain ⟨cs, h1, ⟨p, c, rfl, h2, h3⟩, h4⟩ := hc i xs[i] (List.getElem?_eq_getElem hi)
  refine ⟨ad, p, c, rfl, ?_, h2, h3⟩
  have := h4 0 _ rfl
  rwa [show i * (Kd.slice 3 (Kd.int .i64)).sz + 0 = i from by show i * 1 + 0 = i; omega] at this

set_option maxHeartbeats 8000000 in
set_option maxRecDepth 100000 in
theorem law3_calls (A0 : Option Addr) (c0 : Nat) (l : List Int) (A1 : Option Addr) (c1 : Nat) (T : List Bool) (w : World) (hr0 : Kd.C (Kd.int .i64) w A0 l.length l) (hc0 : l.length ≤ c0) (hr1 : Kd.C Kd.bool w A1 T.length T) (hc1 : T.length ≤ c1) :
    Calls Try.prog 6 #[.slice A0 l.length c0, .slice A1 T.length c1] w fun e w' => e = .returned (.bool true) ∧ Below w.heap.size w w' := by
  by_cases hl : 3 < l.length
  · have hlI : (3 : Int) < (l.length : Int) := by omega
    go_enter Try.func6, Try.ntmps6
    go_wp2_with (first
      | (go_at_call 14; with_reducible refine (awake_calls _).mono ?_; rintro e w1 ⟨rfl, hB1⟩))
    go_ret
    exact ⟨rfl, hB1⟩
  have hlI : ¬ (3 : Int) < (l.length : Int) := by omega
  by_cases hT : 40 < T.length
  · have hTI : (40 : Int) < (T.length : Int) := by omega
    go_enter Try.func6, Try.ntmps6
    go_wp2_with (first
      | (go_at_call 14; with_reducible refine (awake_calls _).mono ?_; rintro e w1 ⟨rfl, hB1⟩))
    go_ret
    exact ⟨rfl, hB1⟩
  have hTI : ¬ (40 : Int) < (T.length : Int) := by omega
  have hl3 : l.length ≤ 3 := by omega
  clear hl hT
  go_enter Try.func6, Try.ntmps6
  go_wp2_with (first
    | (go_at_call 14; with_reducible refine (awake_calls _).mono ?_; rintro e w1 ⟨rfl, hB1⟩))
  go_loopw [5] (fun i wr => ∃ k : Nat, k ≤ l.length ∧ i = .int .i64 k ∧ (∀ j (h : j < l.length), j < k → 0 ≤ l[j] ∧ l[j] ≤ 3) ∧ ∃ m, wr = w1.drewN m) (fun i _ => l.length - (intOf i).toNat)
  case atStart => exact ⟨0, Nat.zero_le _, rfl, fun j _ h => absurd h (Nat.not_lt_zero j), 0, rfl⟩
  case round =>
    obtain ⟨k, hk, rfl, hno, m, rfl⟩ := hrel
    have hB1m := pw_below_drewN hB1 m
    by_cases hk1 : k < l.length
    · have hkI : (k : Int) < (l.length : Int) := by omega
      obtain ⟨ad, rfl, hcell0⟩ := Kd.at_int (Kd.C_below hr0 hB1m) (k : Int) (by omega) hkI
      rw [Int.toNat_natCast, show rd l (k : Int) = l[k] from by simp [rd, hk1]] at hcell0
      by_cases hbad : 0 ≤ l[k] ∧ l[k] ≤ 3
      · have hnn : ∀ j (h : j < l.length), j < k + 1 → 0 ≤ l[j] ∧ l[j] ≤ 3 := fun j h hj => by
          rcases Nat.lt_succ_iff_lt_or_eq.mp hj with h2 | rfl
          · exact hno j h h2
          · exact hbad
        clear hno
        have hHnn := Aside0.mk hnn
        clear hnn
        generalize l[k] = n at hcell0 hbad
        have hb1 : ¬ n < 0 := by omega
        have hb2 : ¬ 3 < n := by omega
        go_wp2
        exact ⟨⟨k + 1, by omega, rfl, hHnn.out, _, rfl⟩, by simp [intOf]; omega⟩
      · clear hno
        generalize l[k] = n at hcell0 hbad
        by_cases hb1 : n < 0
        · go_wp2
          go_ret
          exact ⟨rfl, by assumption⟩
        · have hb2 : 3 < n := by omega
          go_wp2
          go_ret
          exact ⟨rfl, by assumption⟩
    · have hkI : ¬ (k : Int) < (l.length : Int) := by omega
      obtain rfl : k = l.length := by omega
      have hn3 : ∀ n ∈ l, 0 ≤ n ∧ n ≤ 3 := fun n h => by
        obtain ⟨j, hj, rfl⟩ := List.getElem_of_mem h
        exact hno j hj hj
      have hn : ∀ n ∈ l, 0 ≤ n ∧ n ≤ 16777216 := fun n h => by have := hn3 n h; omega
      have ht : tot l ≤ 16777216 := by have := tot_small hn3; omega
      have hmk : ∀ W, Below w.heap.size w W → Calls Try.prog 16 #[.slice A0 l.length c0] W _ := fun W hB => made A0 c0 l W (Kd.C_below hr0 hB) hc0 (by omega) hn ht
      obtain ⟨ok, R, hF1, hF2, hF3, hCh⟩ := choice_law hl3 hn3 T
      have hch : ∀ W base g, AT W base g l → Below w.heap.size w W → Calls Try.prog 28 #[.pointer (some ⟨g, 0, none⟩), .slice A1 T.length c1] W _ := fun W base g h hB => hCh W base g h A1 c1 (Kd.C_below hr1 hB) hc1
      obtain ⟨kc, hkc⟩ := (choices_ev hn3 hl3 l.length [] (by simp)).rounds
      have hLl : (chs l l.length []).length ≤ 64 := Nat.le_trans (chs_len hn3 l.length []) (Nat.pow_le_pow_right (n := 4) (by decide) hl3)
      have hcs : ∀ W, Below w.heap.size w W → Calls Try.prog 29 #[.slice A0 l.length c0, .slice none 0 0] W _ := fun W hB => ferruleref13_Choices.calls kc A0 c0 l none 0 [] _ W (Kd.C_below hr0 hB) hc0 ⟨rfl, by simp, fun h => absurd h (Nat.lt_irrefl 0)⟩ (Nat.zero_le _) hkc
      have hlc : ∀ c ∈ chs l l.length [], c.length = l.length := fun c h => ((all_mem hn3).mp h).1
      generalize chs l l.length [] = L at *
      clear hno hCh hkc
      go_wp2_with (first
        | (go_at_call 16; with_reducible refine (hmk _ hB1m).mono ?_; rintro e w4 ⟨g, rfl, hTb, hB4⟩; have hB4' := hB1m.trans (hB4.mono hB1m.size))
        | (go_at_call 28; with_reducible refine (hch _ _ _ hTb hB4').mono ?_; rintro e w5 ⟨v5, rfl, hv5, hB5⟩; have hB5' := hB4'.trans (hB5.mono hB4'.size); obtain ⟨p5, q5, rfl⟩ := Hlp.own_slice hv5)
        | (go_at_call 29; with_reducible refine (hcs _ hB5').mono ?_; rintro e w6 ⟨v6, rfl, hv6, hB6⟩; have hB6' := hB5'.trans (hB6.mono hB5'.size); obtain ⟨p6, q6, rfl⟩ := Kd.N_slice hv6; have hC6 := (Kd.N_reads' hv6).2.2; have hv56 := Hlp.own_below hv5 hB6))
      go_loopw [10] (fun i wr => ∃ q : Nat, q ≤ L.length ∧ i = .int .i64 q ∧ (∀ j (h : j < L.length), j < q → outL l L[j] ≠ T) ∧ Below w6.heap.size w6 wr) (fun i _ => L.length - (intOf i).toNat)
      case atStart => exact ⟨0, Nat.zero_le _, rfl, fun j _ h => absurd h (Nat.not_lt_zero j), Below.refl _ _⟩
      case round =>
        obtain ⟨q, hq, rfl, hnone, hB7⟩ := hrel
        have hBw := hB6'.trans (hB7.mono hB6'.size)
        have hC7 := Kd.C_below hC6 hB7
        have hv7 := Hlp.own_below hv56 hB7
        clear hmk hch hcs hC6 hv56 hv6 hTb hv5
        by_cases hq1 : q < L.length
        · have hqI : (q : Int) < (L.length : Int) := by omega
          obtain ⟨ad, pq, cq, rfl, hcell, hlq, hCq⟩ := row_at hC7 q hq1
          obtain ⟨kt, hkt⟩ := truths_ev (l := l) (by omega) hn ht L[q]
          have hol := outL_le (ch := L[q]) hn ht
          obtain ⟨kq, hkq⟩ := sameg_ev (outL l L[q]) T (by omega)
          have hrt : Calls Try.prog 26 #[.slice A0 l.length c0, .slice pq L[q].length cq] wr _ := ferruleref13_Truths.calls kt A0 c0 l pq cq L[q] (outL l L[q]) wr (Kd.C_below hr0 hBw) hc0 hCq hlq hkt
          have hF := hF1 L[q] (List.getElem_mem hq1)
          have hQ3 : L[q].length ≤ 3 := by rw [hlc _ (List.getElem_mem hq1)]; exact hl3
          have hsucc : outL l L[q] ≠ T → ∀ j (h : j < L.length), j < q + 1 → outL l L[j] ≠ T := fun h j hj hjq => by
            rcases Nat.lt_succ_iff_lt_or_eq.mp hjq with h2 | rfl
            · exact hnone j hj h2
            · exact h
          have hHnn := Aside0.mk hsucc
          clear hsucc hnone hF1 hF2 hF3 hlc
          have hsame : ∀ W A c, Below wr.heap.size wr W → Kd.bool.C W A (outL l L[q]).length (outL l L[q]) → (outL l L[q]).length ≤ c → Calls Try.prog 27 #[.slice A (outL l L[q]).length c, .slice A1 T.length c1] W _ := fun W A c hB h1 h2 => ferruleref13_Same.calls kq A c (outL l L[q]) A1 c1 T _ W h1 h2 (Kd.C_below hr1 (hBw.trans (hB.mono hBw.size))) hc1 hkq
          by_cases hEq : outL l L[q] = T
          · obtain ⟨rfl, rfl⟩ := hF hEq
            rw [decide_eq_true hEq] at hsame
            clear hEq hHnn hF hkt hkq hol
            generalize outL l L[q] = O at *
            generalize L[q] = Q at *
            have hQI : ((Q.length : Int) != (Q.length : Int)) = false := by simp
            go_wp2_with (first
              | (go_at_call 26; with_reducible refine hrt.mono ?_; rintro e w8 ⟨v8, rfl, hR8, hB8⟩; obtain ⟨p8, c8, rfl, hc8, hC8⟩ := C_of_bools (own_of_Rb hR8))
              | (go_at_call 27; with_reducible refine (hsame _ _ _ hB8 hC8 hc8).mono ?_; rintro e w9 ⟨rfl, hD9⟩; have hB9 := hB8.trans (hD9.below.mono hB8.size); have hv9 := Hlp.own_below hv7 hB9; have hcell9 := cell_below hcell hB9; have hCq9 := Kd.C_below hCq hB9))
            go_loopw [11] (fun i wr => ∃ s : Nat, s ≤ Q.length ∧ i = .int .i64 s ∧ ∃ m, wr = w9.drewN m) (fun i _ => Q.length - (intOf i).toNat)
            case atStart => exact ⟨0, Nat.zero_le _, rfl, 0, rfl⟩
            case round =>
              obtain ⟨s, hs, rfl, m', rfl⟩ := hrel
              by_cases hs1 : s < Q.length
              · have hsI : (s : Int) < (Q.length : Int) := by omega
                obtain ⟨ad2, rfl, hcellq⟩ := Kd.at_int hCq9 (s : Int) (by omega) hsI
                rw [Int.toNat_natCast, show rd Q (s : Int) = Q[s] from by simp [rd, hs1]] at hcellq
                obtain ⟨r5, rfl⟩ := addr_of hv9 (by omega)
                have hcg := row_cell hv9 s (.int .i64 Q[s]) (by simp [ints, hs1])
                generalize Q[s] = z at hcg hcellq
                go_wp2_with fail
                go_quiet (fail)
                go_wp2
                exact ⟨⟨s + 1, by omega, rfl, _, rfl⟩, by simp [intOf]; omega⟩
              · have hsI : ¬ (s : Int) < (Q.length : Int) := by omega
                go_wp2
                go_ret
                exact ⟨rfl, pw_below_drewN (hBw.trans (hB9.mono hBw.size)) m'⟩
          · rw [decide_eq_false hEq] at hsame
            have HE := Aside0.mk hEq
            clear hEq hF hkt hkq hol
            generalize hO : outL l L[q] = O at hrt hsame
            have HO := Aside0.mk hO
            clear hO
            generalize hQ : L[q] = Q at hrt hsame hcell hlq hCq
            have HQ := Aside0.mk hQ
            clear hQ
            go_wp2_with (first
              | (go_at_call 26; with_reducible refine hrt.mono ?_; rintro e w8 ⟨v8, rfl, hR8, hB8⟩; obtain ⟨p8, c8, rfl, hc8, hC8⟩ := C_of_bools (own_of_Rb hR8))
              | (go_at_call 27; with_reducible refine (hsame _ _ _ hB8 hC8 hc8).mono ?_; rintro e w9 ⟨rfl, hD9⟩; have hB9 := hB8.trans (hD9.below.mono hB8.size)))
            exact ⟨⟨q + 1, by omega, rfl, hHnn.out HE.out, hB7.trans (hB9.mono hB7.size)⟩, by simp [intOf]; omega⟩
        · have hqI : ¬ (q : Int) < (L.length : Int) := by omega
          obtain rfl : ok = false := by
            cases ok with
            | false => rfl
            | true =>
              obtain ⟨c, hc, hcT⟩ := hF2 rfl
              obtain ⟨j, hj, rfl⟩ := List.getElem_of_mem hc
              exact absurd hcT (hnone j hj (by omega))
          obtain rfl : R = [] := hF3 rfl
          clear hnone hF1 hF2 hF3
          go_wp2
          go_ret
          exact ⟨rfl, hBw⟩
end Go.Proofs.Ytohgjbkiemnfnaa.Ato
