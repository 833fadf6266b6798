/- The theory of ranks (order): what the document says of a literal's atom, of what is allowed, explained and implied, is what the plain words say. No program in sight. -/
import Derived.Test.YtcebjhbphcoboaaQr
import Derived.Test.YtcebjhbphcoboaaXm
import Derived.Test.YtcebjhbphcoboaaXn82
import Derived.Test.YtcebjhbphcoboaaXn48
import Derived.Test.YtcebjhbphcoboaaXn47
import Derived.Test.YtcebjhbphcoboaaXn85
import Derived.Test.YtcebjhbphcoboaaXn84
import Derived.Test.YtcebjhbphcoboaaXn50
import Derived.Test.YtcebjhbphcoboaaXn52
namespace Go.Proofs.Ytcebjhbphcoboaa.Ato
open Go Go.RowKit Go.Proofs.Ytcebjhbphcoboaa.X Go.Proofs.Ytcebjhbphcoboaa.Hlp Go.Proofs.YtcebjhbphcoboaaW.PrintWords Go.Proofs.YtcebjhbphcoboaaW.PrintLast Go.Proofs.YtcebjhbphcoboaaW.PrintMore Go.Proofs.Ytcebjhbphcoboaa.Aid Go.Proofs.Ytcebjhbphcoboaa.Clean12
set_option linter.unusedVariables false
set_option linter.unusedSimpArgs false
theorem all_mem {l : List Int} : ∀ k, k ≤ l.length → ∀ a ∈ allA l k, 0 ≤ a.f1 ∧ a.f1 < (k : Int) := by
  intro k
  induction k with
  | zero => intro _ a ha; simp [allA] at ha
  | succ k ih =>
    intro hk a ha
    rw [allA, List.mem_append] at ha
    rcases ha with ha | ha
    · have := ih (by omega) a ha; omega
    · unfold blkA lowA eqA at ha
      simp only [List.mem_append, List.mem_map, List.mem_singleton] at ha
      rcases ha with (rfl | ⟨i, _, rfl⟩) | ⟨i, _, rfl⟩ <;> (simp only []; omega)
theorem lit_at {l : List Int} (hn : ∀ n ∈ l, 0 ≤ n) {x : Int} (h : litOk l x = true) : (allA l l.length)[x.natAbs - 1]? = some (litA l x) := by
  have hk := of_decide_eq_true h
  have hl := allA_len hn l.length (Nat.le_refl _)
  rw [List.take_length] at hl
  have hlt : x.natAbs - 1 < (allA l l.length).length := by omega
  unfold litA
  rw [if_pos h, List.getElem?_eq_getElem hlt, List.getD, List.getElem?_eq_getElem hlt]; rfl
theorem small_l0 (l : List Int) (hl : l.length ≤ 4) : ∀ d i : Nat, l.length - i = d → i ≤ l.length → ∃ b, Ev (fun k => ferrulelaw15_small.l0 k l (i : Int)) b ∧ (b = true → ∀ j (h : j < l.length), i ≤ j → 0 ≤ l[j] ∧ l[j] ≤ 5) := by
  intro d
  induction d with
  | zero => exact fun i hd hi => ⟨true, Ev.step (fun k => by rw [ferrulelaw15_small.l0]) (ev_neg (by omega) (Ev.now _)), fun _ j h hj => by omega⟩
  | succ d ih =>
    intro i hd hi
    have hlt : i < l.length := by omega
    obtain ⟨b, hb, hp⟩ := ih (i + 1) (by omega) (by omega)
    have hb' : Ev (fun k => ferrulelaw15_small.l0 k l (wrap64 ((i : Int) + 1))) b := by
      rw [wrap64_in (by omega) (by omega), show (i : Int) + 1 = ((i + 1 : Nat) : Int) by omega]; exact hb
    by_cases h1 : l[i] < 0
    · refine ⟨false, Ev.step (fun k => by rw [ferrulelaw15_small.l0]) (ev_pos (by omega) (ev_pos (by omega) ?_)), fun h => by cases h⟩
      rw [rd_nat l i hlt]; exact ev_pos h1 (Ev.now _)
    · by_cases h2 : l[i] > 5
      · refine ⟨false, Ev.step (fun k => by rw [ferrulelaw15_small.l0]) (ev_pos (by omega) (ev_pos (by omega) ?_)), fun h => by cases h⟩
        rw [rd_nat l i hlt]; exact ev_neg h1 (ev_pos h2 (Ev.now _))
      · refine ⟨b, Ev.step (fun k => by rw [ferrulelaw15_small.l0]) (ev_pos (by omega) (ev_pos (by omega) ?_)), fun h j hj hij => ?_⟩
        · rw [rd_nat l i hlt]; exact ev_neg h1 (ev_neg h2 hb')
        · rcases Nat.eq_or_lt_of_le hij with rfl | h3
          · omega
          · exact hp h j hj h3
theorem tot_small5 : ∀ (l : List Int), (∀ n ∈ l, 0 ≤ n ∧ n ≤ 5) → tot l ≤ 10 * l.length
  | [], _ => by simp [tot]
  | a :: r, h => by
    have h1 := h a (by simp)
    have h2 := tot_small5 r fun n hn => h n (by simp [hn])
    simp only [tot, List.map_cons, List.sum_cons, wd, List.length_cons] at *
    omega
theorem small15_ev (l : List Int) : ∃ k b, ferrulelaw15_small.f k l = some b ∧ (b = true → Szs l ∧ l.length ≤ 4) := by
  by_cases hl : l.length ≤ 4
  · obtain ⟨b, hb, hp⟩ := small_l0 l hl _ 0 rfl (Nat.zero_le _)
    obtain ⟨k, hk⟩ := hb.rounds
    refine ⟨k, b, by unfold ferrulelaw15_small.f; rw [if_neg (by omega)]; exact hk, fun h => ?_⟩
    have hall : ∀ n ∈ l, 0 ≤ n ∧ n ≤ 5 := fun n hn => by
      obtain ⟨j, hj, rfl⟩ := List.getElem_of_mem hn
      exact hp h j hj (Nat.zero_le _)
    have := tot_small5 l hall
    exact ⟨⟨by omega, fun n hn => by have := hall n hn; omega, by omega⟩, hl⟩
  · exact ⟨0, false, by unfold ferrulelaw15_small.f; rw [if_pos (by omega)], fun h => by cases h⟩
theorem var_p (x : Int) : (1 ≤ x.natAbs → x.natAbs ≤ 16777216 → av x = (x.natAbs : Int)) ∧ ((av x < 1) ∨ av x = (x.natAbs : Int)) := by
  refine ⟨fun h1 h2 => ?_, ?_⟩
  · rw [av_def]; (repeat' split) <;> omega
  · rw [av_def]; (repeat' split) <;> omega
theorem all_len {l : List Int} (hs : Szs l) : ((allA l l.length).length : Int) = tot l := by
  have := allA_len (fun n h => (hs.2.1 n h).1) l.length (Nat.le_refl _)
  rwa [List.take_length] at this
/-- A literal's atom. -/
theorem refAtom_ev {l : List Int} (hs : Szs l) (x : Int) : Ev (fun k => ferruleref15_Atom.f k l x) ((litA l x).f0, (litA l x).f1, (litA l x).f2, litOk l x) := by
  obtain ⟨hs1, hs2, hs3⟩ := id hs
  have hl := all_len hs
  obtain ⟨hv1, hv2⟩ := var_p x
  have hv3 : clause_abs.p x < 1 ∨ clause_abs.p x = (x.natAbs : Int) := hv2
  unfold ferruleref15_Atom.f
  refine ev_bind (all_ev hs1 hs2 hs3) (ev_bind (Clause12.var_ev x) ?_)
  by_cases hok : litOk l x = true
  · have hk := of_decide_eq_true hok
    have hav : clause_abs.p x = (x.natAbs : Int) := hv1 hk.1 (by omega)
    have hat := lit_at (fun n h => (hs2 n h).1) hok
    refine ev_neg (by omega) (ev_neg (by omega) (ev_pos ?_ (ev_pos ?_ (ev_now ?_))))
    · rw [wrap64_in (by omega) (by omega)]; omega
    · rw [wrap64_in (by omega) (by omega)]; omega
    · have hr : rd_T111 (allA l l.length) (wrap64 (clause_abs.p x - 1)) = litA l x := by
        rw [hav, wrap64_in (by omega) (by omega)]
        unfold rd_T111
        rw [show ((x.natAbs : Int) - 1).toNat = x.natAbs - 1 by omega, List.getD, hat]; rfl
      rw [hr, hok]
  · rw [Bool.not_eq_true] at hok
    have hA := litA_no hok
    have hk := of_decide_eq_false hok
    rw [hA, hok]
    by_cases h1 : clause_abs.p x < 1
    · exact ev_pos h1 (Ev.now _)
    · have h2 : clause_abs.p x = (x.natAbs : Int) := by rcases hv3 with h | h; (exact absurd h h1); exact h
      exact ev_neg h1 (ev_pos (by omega) (Ev.now _))
theorem refTrue (a : S111) (x r : Int) : ferruleref15_True.f a.f0 a.f1 a.f2 x r = some (tr1 a r == decide (0 < x)) := by
  unfold ferruleref15_True.f tr1
  by_cases h0 : a.f0 = 0
  · rw [if_pos h0, if_pos h0, if_neg (by omega)]
  · rw [if_neg h0, if_neg h0]
    by_cases h1 : a.f0 = 1
    · rw [if_pos h1, if_pos h1]
    · rw [if_neg h1, if_neg h1]
/-- The literals of a package. -/
theorem refOf_l0 {l : List Int} (hs : Szs l) (p : Int) (L : List Int) (hL : L.length ≤ 100000) (hm : ∀ x ∈ L, litOk l x = true) : ∀ d n : Nat, L.length - n = d → n ≤ L.length → Ev (fun k => ferruleref15_Of.l0 k l p L (ofL l p (L.take n)) (n : Int)) (ofL l p L) := by
  intro d
  induction d with
  | zero =>
    intro n hd hn
    refine Ev.step (fun k => by rw [ferruleref15_Of.l0]) (ev_neg (by omega) (ev_now ?_))
    rw [List.take_of_length_le (by omega)]
  | succ d ih =>
    intro n hd hn
    have hlt : n < L.length := by omega
    have hot := ofL_take l p L n hlt
    have hol := ofL_len l p (L.take n)
    rw [List.length_take] at hol
    have hn1 := ih (n + 1) (by omega) (by omega)
    have hk := hm _ (List.getElem_mem hlt)
    refine Ev.step (fun k => by rw [ferruleref15_Of.l0]) (ev_pos (by omega) (ev_pos (by omega) (ev_bind (refAtom_ev hs _) ?_)))
    rw [rd_nat L n hlt]
    refine ev_pos hk ?_
    rw [wrap64_in (by omega) (by omega), show (n : Int) + 1 = ((n + 1 : Nat) : Int) by omega]
    by_cases hp : (litA l L[n]).f1 = p
    · rw [if_pos (by rw [hp]; simp)] at hot
      rw [hot] at hn1
      exact ev_pos hp (ev_pos (by omega) hn1)
    · rw [if_neg (by simpa using hp)] at hot
      rw [hot] at hn1
      exact ev_neg hp hn1
theorem refOf_ev {l : List Int} (hs : Szs l) (p : Int) (L : List Int) (hL : L.length ≤ 100000) (hm : ∀ x ∈ L, litOk l x = true) : Ev (fun k => ferruleref15_Of.f k l p L) (ofL l p L) := by
  unfold ferruleref15_Of.f
  exact refOf_l0 hs p L hL hm _ 0 rfl (Nat.zero_le _)
/-- What literals allow. -/
theorem refAllowed_l1 {l : List Int} (hs : Szs l) (p : Int) (L : List Int) (hL : L.length ≤ 100000) (acc : List Int) (r : Int) (R : List Int) : ∀ d j : Nat, L.length - j = d → j ≤ L.length → ∀ b : Bool,
    Ev (fun k => if (b && (L.drop j).all (agree l r)) = true then (if acc.length < 17592186044416 then ferruleref15_Allowed.l0 k l p L (acc ++ [r]) (wrap64 (r + 1)) else none) else ferruleref15_Allowed.l0 k l p L acc (wrap64 (r + 1))) R →
    Ev (fun k => ferruleref15_Allowed.l1 k l p L acc r b (j : Int)) R := by
  intro d
  induction d with
  | zero =>
    intro j hd hj b hK
    refine Ev.step (fun k => by rw [ferruleref15_Allowed.l1]) (ev_neg (by omega) ?_)
    rw [List.drop_eq_nil_of_le (by omega), List.all_nil, Bool.and_true] at hK
    exact hK
  | succ d ih =>
    intro j hd hj b hK
    have hlt : j < L.length := by omega
    rw [List.drop_eq_getElem_cons hlt, List.all_cons] at hK
    refine Ev.step (fun k => by rw [ferruleref15_Allowed.l1]) (ev_pos (by omega) (ev_pos (by omega) (ev_bind (refAtom_ev hs _) ?_)))
    rw [rd_nat L j hlt, wrap64_in (by omega) (by omega), show (j : Int) + 1 = ((j + 1 : Nat) : Int) by omega]
    cases b with
    | true =>
      refine ev_pos rfl (ev_bind (ev_done (refTrue _ _ _)) (ih (j + 1) (by omega) (by omega) _ ?_))
      rw [Bool.true_and] at hK
      exact hK
    | false =>
      refine ev_neg (by decide) (ih (j + 1) (by omega) (by omega) _ ?_)
      rw [Bool.false_and] at hK ⊢
      exact hK
theorem refAllowed_l0 {l : List Int} (hs : Szs l) (p : Int) (h0 : 0 ≤ p) (h1 : p < l.length) (L : List Int) (hL : L.length ≤ 100000) : ∀ d m : Nat, (sizeP l p).toNat + 1 - m = d → m ≤ (sizeP l p).toNat + 1 → Ev (fun k => ferruleref15_Allowed.l0 k l p L (alwK l L m) ((m : Int) - 1)) (alw l p L) := by
  have hsz : sizeP l p = rd l p := by unfold sizeP; rw [if_pos ⟨h0, h1⟩]; rfl
  have hr : 0 ≤ rd l p ∧ rd l p ≤ 16777216 := by
    rw [rd_of h0 h1]
    exact hs.2.1 _ (List.getElem_mem _)
  rw [hsz]
  intro d
  induction d with
  | zero =>
    intro m hd hm
    refine Ev.step (fun k => by rw [ferruleref15_Allowed.l0]) (ev_pos h0 (ev_pos h1 (ev_neg (by omega) (ev_now ?_))))
    unfold alw
    rw [hsz, show (rd l p).toNat + 1 = m by omega]
  | succ d ih =>
    intro m hd hm
    have hks := alwK_succ l L m
    have hkl := alwK_len l L m
    have hn1 := ih (m + 1) (by omega) (by omega)
    have hl1 := refAllowed_l1 hs p L hL (alwK l L m) ((m : Int) - 1) (alw l p L) _ 0 rfl (Nat.zero_le _) true
    refine Ev.step (fun k => by rw [ferruleref15_Allowed.l0]) ?_
    refine ev_pos h0 (ev_pos h1 (ev_pos (by omega) ?_))
    refine hl1 ?_
    clear hl1
    rw [List.drop_zero, Bool.true_and, wrap64_in (by omega) (by omega), show (m : Int) - 1 + 1 = ((m + 1 : Nat) : Int) - 1 by omega]
    by_cases hb : L.all (agree l ((m : Int) - 1)) = true
    · rw [if_pos hb] at hks
      rw [hks] at hn1
      exact ev_pos hb (ev_pos (by omega) hn1)
    · rw [if_neg hb] at hks
      rw [hks] at hn1
      exact ev_neg hb hn1
theorem refAllowed_ev {l : List Int} (hs : Szs l) (p : Int) (h0 : 0 ≤ p) (h1 : p < l.length) (L : List Int) (hL : L.length ≤ 100000) : Ev (fun k => ferruleref15_Allowed.f k l p L) (alw l p L) := by
  unfold ferruleref15_Allowed.f
  have := refAllowed_l0 hs p h0 h1 L hL _ 0 rfl (Nat.zero_le _)
  have e1 : alwK l L 0 = [] := by simp [alwK, ranks]
  have e2 : ((0 : Nat) : Int) - 1 = -1 := by omega
  rw [e1, e2] at this
  exact this
/-- A list without one of its elements. -/
theorem refWithout (L : List Int) (hL : L.length ≤ 100000) (i : Nat) (hi : i < L.length) : ferruleref15_without.f L (i : Int) = some (wout L i) := by
  have e1 : wrap64 ((i : Int) + 1) = ((i + 1 : Nat) : Int) := by rw [wrap64_in (by omega) (by omega)]; omega
  have c1 : ([] : List Int).length + (L.take ((i : Int)).toNat).length < 17592186044416 := by rw [List.length_take, List.length_nil]; omega
  have c2 : ([] ++ L.take ((i : Int)).toNat).length + (L.drop (((i + 1 : Nat) : Int)).toNat).length < 17592186044416 := by rw [List.nil_append, List.length_take, List.length_drop]; omega
  unfold ferruleref15_without.f wout
  rw [Option.bind_some, if_pos (by omega), if_pos (by omega), if_pos c1, Option.bind_some, e1, if_pos (by omega), if_pos (by omega), if_pos c2, List.nil_append, Int.toNat_natCast, Int.toNat_natCast]
/-- Literals that don't agree, those left out that needn't be there. -/
theorem refExplained_l0 {l : List Int} (hs : Szs l) (p : Int) (h0 : 0 ≤ p) (h1 : p < l.length) (keep : Nat) (hk : keep ≤ 100000) : ∀ (f : Nat) (M : List Int) (i : Nat), M.length ≤ 100000 → M.length - i < f → i ≤ M.length → Ev (fun k => ferruleref15_Explained.l0 k l p (keep : Int) M (i : Int)) (explN l p keep f M i)
  | 0, M, i, _, hf, _ => by omega
  | f + 1, M, i, hM, hf, hi => by
    rw [explN]
    refine Ev.step (fun k => by rw [ferruleref15_Explained.l0]) ?_
    rw [wrap64_in (x := (M.length : Int) - keep) (by omega) (by omega)]
    by_cases hik : i + keep < M.length
    · rw [if_pos hik]
      have hwl := wout_len M i (by omega)
      refine ev_pos (by omega) (ev_bind (ev_done (refWithout M hM i (by omega))) (ev_bind (refAllowed_ev hs p h0 h1 _ (by omega)) ?_))
      by_cases ha : alw l p (wout M i) = []
      · rw [if_pos ha]
        refine ev_pos (by rw [ha]; rfl) (ev_bind (ev_done (refWithout M hM i (by omega))) ?_)
        exact refExplained_l0 hs p h0 h1 keep hk f _ _ (by omega) (by omega) (by omega)
      · rw [if_neg ha]
        refine ev_neg (fun e => ha (List.length_eq_zero_iff.mp (by omega))) ?_
        rw [wrap64_in (by omega) (by omega), show (i : Int) + 1 = ((i + 1 : Nat) : Int) by omega]
        exact refExplained_l0 hs p h0 h1 keep hk f _ _ hM (by omega) (by omega)
    · rw [if_neg hik]
      exact ev_neg (by omega) (Ev.now _)
theorem refExplained_ev {l : List Int} (hs : Szs l) (p : Int) (h0 : 0 ≤ p) (h1 : p < l.length) (keep : Nat) (hk : keep ≤ 100000) (L : List Int) (hL : L.length ≤ 100000) : Ev (fun k => ferruleref15_Explained.f k l p L (keep : Int)) (expl l p keep L) := by
  unfold ferruleref15_Explained.f expl
  refine ev_bind (Ev.now _) (ev_pos (by simp; omega) ?_)
  rw [List.nil_append]
  exact refExplained_l0 hs p h0 h1 keep hk _ L 0 hL (by omega) (Nat.zero_le _)
/-- A clean clause of literals' negations. -/
theorem refNegated_l0 (L : List Int) (hL : L.length ≤ 100000) (hx : ∀ x ∈ L, -16777216 ≤ x ∧ x ≤ 16777216) : ∀ d n : Nat, L.length - n = d → n ≤ L.length → Ev (fun k => ferruleref15_Negated.l0 k L ((L.take n).map fun x => -x) (n : Int)) (negL L) := by
  intro d
  induction d with
  | zero =>
    intro n hd hn
    refine Ev.step (fun k => by rw [ferruleref15_Negated.l0]) (ev_neg (by omega) ?_)
    rw [List.take_of_length_le (by omega)]
    exact ev_bind (cleanR_ev _ (by rw [List.length_map]; omega)) (Ev.now _)
  | succ d ih =>
    intro n hd hn
    have hlt : n < L.length := by omega
    have hb := hx _ (List.getElem_mem hlt)
    refine Ev.step (fun k => by rw [ferruleref15_Negated.l0]) (ev_pos (by omega) (ev_pos (by omega) (ev_pos (by rw [List.length_map, List.length_take]; omega) ?_)))
    have := ih (n + 1) (by omega) (by omega)
    rw [List.take_succ_eq_append_getElem hlt, List.map_append] at this
    rw [rd_nat L n hlt, wrap64_in (x := -L[n]) (by omega) (by omega), wrap64_in (by omega) (by omega), show (n : Int) + 1 = ((n + 1 : Nat) : Int) by omega]
    exact this
theorem refNegated_ev (L : List Int) (hL : L.length ≤ 100000) (hx : ∀ x ∈ L, -16777216 ≤ x ∧ x ≤ 16777216) : Ev (fun k => ferruleref15_Negated.f k L) (negL L) := by
  unfold ferruleref15_Negated.f
  exact refNegated_l0 L hL hx _ 0 rfl (Nat.zero_le _)
theorem litA_pack {l : List Int} (hs : Szs l) {x : Int} (h : litOk l x = true) : 0 ≤ (litA l x).f1 ∧ (litA l x).f1 < (l.length : Int) := by
  have := all_mem l.length (Nat.le_refl _) (litA l x) (List.mem_of_getElem? (lit_at (fun n h => (hs.2.1 n h).1) h))
  exact this
/-- Why a literal is implied. -/
theorem refExplain_ev {l : List Int} (hs : Szs l) (L : List Int) (hL : L.length ≤ 1000) (hm : ∀ x ∈ L, litOk l x = true) (x : Int) : Ev (fun k => ferruleref15_Explain.f k l L x) (explainP l L x) := by
  unfold ferruleref15_Explain.f
  refine ev_bind (refAtom_ev hs x) ?_
  dsimp only
  unfold explainP
  by_cases hok : litOk l x = true
  case neg =>
    rw [Bool.not_eq_true] at hok
    rw [if_pos (.inl hok)]
    refine ev_neg (by show ¬ litOk l x = true; rw [hok]; decide) ?_
    exact Ev.step (fun k => by rw [ferruleref15_Explain.j0]) (ev_pos rfl (Ev.now _))
  obtain ⟨hp0, hp1⟩ := litA_pack hs hok
  have hxx := litOk_in hs.2.2 hok
  refine ev_pos hok (ev_bind (has_ev L (by omega) x) ?_)
  by_cases hmem : x ∈ L
  · rw [if_pos (.inr hmem), decide_eq_true hmem]
    exact Ev.step (fun k => by rw [ferruleref15_Explain.j0]) (ev_pos rfl (Ev.now _))
  rw [if_neg (show ¬ (litOk l x = false ∨ x ∈ L) by rw [hok]; simp [hmem]), decide_eq_false hmem]
  have hol := ofL_len l (litA l x).f1 L
  have hw : wrap64 (-x) = -x := wrap64_in (by omega) (by omega)
  have hML : (exM l L x).length ≤ 1001 := by unfold exM; rw [List.length_append, List.length_singleton]; omega
  have hMx : ∀ y ∈ exM l L x, -16777216 ≤ y ∧ y ≤ 16777216 := fun y hy => by
    unfold exM at hy
    rw [List.mem_append] at hy
    rcases hy with hy | hy
    · exact litOk_in hs.2.2 (hm y (List.mem_filter.mp hy).1)
    · simp at hy; omega
  refine Ev.step (fun k => by rw [ferruleref15_Explain.j0]) (ev_neg (by decide) ?_)
  rw [hw]
  refine ev_bind (refOf_ev hs _ L (by omega) hm) ?_
  refine ev_pos (by omega) (ev_bind (Ev.now _) ?_)
  refine ev_bind (refAllowed_ev hs _ hp0 hp1 (exM l L x) (by omega)) ?_
  by_cases ha : alw l (litA l x).f1 (exM l L x) = []
  · rw [if_pos ha]
    have hEl := expl_len l (litA l x).f1 1 ((exM l L x).length + 1) (exM l L x) 0
    refine ev_neg (by rw [ha]; simp) ?_
    refine ev_bind (refExplained_ev hs _ hp0 hp1 1 (by omega) (exM l L x) (by omega)) ?_
    refine ev_bind (refNegated_ev (expl l (litA l x).f1 1 (exM l L x)) (by unfold expl; omega) (fun y hy => hMx y (expl_mem l _ 1 _ _ _ y hy))) (Ev.now _)
  · rw [if_neg ha]
    refine ev_pos ?_ (Ev.now _)
    have : (alw l (litA l x).f1 (exM l L x)).length ≠ 0 := fun e => ha (List.length_eq_zero_iff.mp e)
    omega
/-- Which literals are implied: of one literal; of a variable; of the first k variables. -/
def imp1 (l O : List Int) (p y : Int) : List Int := if y ∈ O then [] else if alw l p (O ++ [-y]) = [] then [y] else []
def impV (l O : List Int) (p v : Int) : List Int := if (litA l v).f1 = p then imp1 l O p v ++ imp1 l O p (-v) else []
def impK (l O : List Int) (p : Int) : Nat → List Int
  | 0 => []
  | k + 1 => impK l O p k ++ impV l O p ((k : Int) + 1)
def impL (l L : List Int) (p : Int) : List Int := impK l (ofL l p L) p (tot l).toNat
theorem imp1_len (l O : List Int) (p y : Int) : (imp1 l O p y).length ≤ 1 := by
  unfold imp1
  split
  · simp
  · split <;> simp
theorem impV_len (l O : List Int) (p v : Int) : (impV l O p v).length ≤ 2 := by
  unfold impV
  split
  · have := imp1_len l O p v; have := imp1_len l O p (-v); rw [List.length_append]; omega
  · simp
theorem impK_len (l O : List Int) (p : Int) : ∀ k, (impK l O p k).length ≤ 2 * k
  | 0 => by simp [impK]
  | k + 1 => by
    have := impK_len l O p k
    have := impV_len l O p ((k : Int) + 1)
    rw [impK, List.length_append]; omega
/-- One sign's round of the document's loop. -/
theorem refImplied_one {l : List Int} (hs : Szs l) (p : Int) (h0 : 0 ≤ p) (h1 : p < l.length) (O : List Int) (hO : O.length ≤ 1000) (v s : Int) (hv : 0 ≤ v ∧ v ≤ 16777216) (hs1 : s = 1 ∨ s = -1) (acc R : List Int) (ha : acc.length ≤ 100000000)
    (hK : Ev (fun k => ferruleref15_Implied.l1 k l p (acc ++ imp1 l O p (s * v)) O (allA l l.length) v (s - 2)) R) :
    Ev (fun k => ferruleref15_Implied.l1 k l p acc O (allA l l.length) v s) R := by
  have hsv : -16777216 ≤ s * v ∧ s * v ≤ 16777216 := by rcases hs1 with rfl | rfl <;> omega
  have hw : wrap64 (s * v) = s * v := wrap64_in (by omega) (by omega)
  have hw2 : wrap64 (-(s * v)) = -(s * v) := wrap64_in (by omega) (by omega)
  have hw3 : wrap64 (s - 2) = s - 2 := wrap64_in (by omega) (by omega)
  refine Ev.step (fun k => by rw [ferruleref15_Implied.l1]) (ev_pos (by omega) ?_)
  rw [hw, hw2, hw3]
  refine ev_bind (has_ev O (by omega) _) ?_
  unfold imp1 at hK
  by_cases hm : s * v ∈ O
  · rw [if_pos hm, List.append_nil] at hK
    exact ev_pos (decide_eq_true hm) hK
  rw [if_neg hm] at hK
  refine ev_neg (by simp [hm]) (ev_bind (Ev.now _) (ev_pos (by simp; omega) (ev_bind (Ev.now _) (ev_pos (by simp; omega) (ev_bind (refAllowed_ev hs p h0 h1 _ (by simp; omega)) ?_)))))
  rw [List.nil_append]
  by_cases hal : alw l p (O ++ [-(s * v)]) = []
  · rw [if_pos hal] at hK
    exact ev_pos (by rw [hal]; rfl) (ev_pos (by omega) hK)
  · rw [if_neg hal, List.append_nil] at hK
    exact ev_neg (fun e => hal (List.length_eq_zero_iff.mp (by omega))) hK
theorem refImplied_l0 {l : List Int} (hs : Szs l) (p : Int) (h0 : 0 ≤ p) (h1 : p < l.length) (O : List Int) (hO : O.length ≤ 1000) : ∀ d m : Nat, (tot l).toNat - m = d → m ≤ (tot l).toNat → Ev (fun k => ferruleref15_Implied.l0 k l p (impK l O p m) O (allA l l.length) ((m : Int) + 1)) (impK l O p (tot l).toNat) := by
  have hl := all_len hs
  have ht := hs.2.2
  intro d
  induction d with
  | zero =>
    intro m hd hm
    refine Ev.step (fun k => by rw [ferruleref15_Implied.l0]) (ev_neg (by omega) (ev_now ?_))
    rw [show m = (tot l).toNat by omega]
  | succ d ih =>
    intro m hd hm
    have hn1 := ih (m + 1) (by omega) (by omega)
    have hkl := impK_len l O p m
    have hok : litOk l ((m : Int) + 1) = true := decide_eq_true ⟨by omega, by omega⟩
    have hat := lit_at (fun n h => (hs.2.1 n h).1) hok
    have hw : wrap64 ((m : Int) + 1 - 1) = (m : Int) := by rw [wrap64_in (by omega) (by omega)]; omega
    have hr : rd_T111 (allA l l.length) (m : Int) = litA l ((m : Int) + 1) := by
      unfold rd_T111
      rw [Int.toNat_natCast, List.getD, show m = ((m : Int) + 1).natAbs - 1 by omega, hat, show (((((m : Int) + 1).natAbs - 1 : Nat) : Int) + 1) = (m : Int) + 1 by omega]; rfl
    refine Ev.step (fun k => by rw [ferruleref15_Implied.l0]) (ev_pos (by omega) ?_)
    rw [hw, hr]
    refine ev_pos (by omega) (ev_pos (by omega) ?_)
    rw [wrap64_in (x := (m : Int) + 1 + 1) (by omega) (by omega)]
    rw [impK, show ((m + 1 : Nat) : Int) + 1 = (m : Int) + 1 + 1 by omega] at hn1
    unfold impV at hn1
    by_cases hp : (litA l ((m : Int) + 1)).f1 = p
    · rw [if_pos hp, ← List.append_assoc] at hn1
      have e1 := imp1_len l O p ((m : Int) + 1)
      refine ev_pos hp (refImplied_one hs p h0 h1 O hO _ 1 (by omega) (.inl rfl) _ _ (by omega) ?_)
      rw [show (1 : Int) * ((m : Int) + 1) = (m : Int) + 1 by omega, show (1 : Int) - 2 = -1 by omega]
      refine refImplied_one hs p h0 h1 O hO _ (-1) (by omega) (.inr rfl) _ _ (by rw [List.length_append]; omega) ?_
      rw [show (-1 : Int) * ((m : Int) + 1) = -((m : Int) + 1) by omega]
      refine Ev.step (fun k => by rw [ferruleref15_Implied.l1]) (ev_neg (by omega) ?_)
      rw [wrap64_in (x := (m : Int) + 1 + 1) (by omega) (by omega)]
      exact hn1
    · rw [if_neg hp, List.append_nil] at hn1
      exact ev_neg hp hn1
/-- No atom is of a package that isn't there. -/
theorem impK_out {l : List Int} (hs : Szs l) (p : Int) (h : p < 0 ∨ (l.length : Int) ≤ p) (O : List Int) : ∀ k, k ≤ (tot l).toNat → impK l O p k = []
  | 0, _ => rfl
  | k + 1, hk => by
    rw [impK, impK_out hs p h O k (by omega)]
    have hok : litOk l ((k : Int) + 1) = true := decide_eq_true ⟨by omega, by omega⟩
    have := litA_pack hs hok
    unfold impV
    rw [if_neg (by omega)]; rfl
theorem refImplied_ev {l : List Int} (hs : Szs l) (L : List Int) (hL : L.length ≤ 1000) (hm : ∀ x ∈ L, litOk l x = true) (p : Int) : Ev (fun k => ferruleref15_Implied.f k l L p) (impL l L p) := by
  unfold ferruleref15_Implied.f
  by_cases h0 : p < 0
  · refine ev_pos h0 (Ev.step (fun k => by rw [ferruleref15_Implied.j0]) (ev_pos rfl (ev_now ?_)))
    exact (impK_out hs p (.inl h0) _ _ (Nat.le_refl _)).symm
  refine ev_neg h0 ?_
  by_cases h1 : p ≥ (l.length : Int)
  · rw [decide_eq_true h1]
    refine Ev.step (fun k => by rw [ferruleref15_Implied.j0]) (ev_pos rfl (ev_now ?_))
    exact (impK_out hs p (.inr h1) _ _ (Nat.le_refl _)).symm
  rw [decide_eq_false h1]
  have hol := ofL_len l p L
  refine Ev.step (fun k => by rw [ferruleref15_Implied.j0]) (ev_neg (by decide) (ev_bind (refOf_ev hs p L (by omega) hm) (ev_bind (all_ev hs.1 hs.2.1 hs.2.2) ?_)))
  exact refImplied_l0 hs p (by omega) (by omega) _ (by omega) _ 0 rfl (Nat.zero_le _)
end Go.Proofs.Ytcebjhbphcoboaa.Ato
