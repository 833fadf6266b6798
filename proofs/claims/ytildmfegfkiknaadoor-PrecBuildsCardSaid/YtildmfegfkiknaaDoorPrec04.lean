/- Versions: how two stand, by precedence and in the full order; which are short. -/
import Derived.Test.YtildmfegfkiknaaDoorRows02
import Derived.Test.YtildmfegfkiknaaDoorXn31
import Derived.Test.YtildmfegfkiknaaDoorXn38
import Derived.Test.YtildmfegfkiknaaDoorXn22
namespace Go.Proofs.YtildmfegfkiknaaDoor.Prec04
open Go.RowKit Go.Proofs.YtildmfegfkiknaaDoorW.PrintWords Go.Proofs.YtildmfegfkiknaaDoorW.PrintMore Go.Proofs.YtildmfegfkiknaaDoor.Aid Go.Proofs.YtildmfegfkiknaaDoor.X Go.Proofs.YtildmfegfkiknaaDoor.Ord Go.Proofs.YtildmfegfkiknaaDoor.Ident02 Go.Proofs.YtildmfegfkiknaaDoor.Rows02

theorem cmp64 (a b : Int) : cmp_Compare_uint64.f a b = some (cmpI a b) := by
  unfold cmp_Compare_uint64.f
  try unfold cmp_isNaN_uint64.f
  unfold cmpI
  simp only [Option.bind_some, bne_self_eq_false, Bool.false_eq_true, if_false]
  (repeat' split) <;> simp_all <;> omega
theorem cores_ev (a0 a1 a2 b0 b1 b2 : Int) : Ev (fun k => prec_cores.f k a0 a1 a2 b0 b1 b2) (cmpLs cmpI [a0, a1, a2] [b0, b1, b2]) := by
  have hne : ¬ (a0 = b0 ∧ a1 = b1 ∧ a2 = b2) → Ev (fun k => prec_cores.l0 k 0 a0 a1 a2 b0 b1 b2) (cmpLs cmpI [a0, a1, a2] [b0, b1, b2]) := by
    intro hn
    have z : ∀ x y : Int, cmpI x y = 0 ↔ x = y := fun x y => ⟨good_int.zero x y, fun h => by rw [h]; exact good_int.refl y⟩
    simp only [cmpLs]
    refine Ev.step (fun k => by rw [prec_cores.l0]) (ev_pos rfl ?_)
    by_cases h0 : a0 = b0
    · refine ev_pos h0 ?_
      rw [if_pos ((z _ _).mpr h0), show wrap64 (0 + 1) = 1 from wrap64_in (by omega) (by omega)]
      refine Ev.step (fun k => by rw [prec_cores.l0]) (ev_neg (by omega) (ev_pos rfl ?_))
      by_cases h1 : a1 = b1
      · refine ev_pos h1 ?_
        rw [if_pos ((z _ _).mpr h1), show wrap64 (1 + 1) = 2 from wrap64_in (by omega) (by omega)]
        have h2 : a2 ≠ b2 := fun h => hn ⟨h0, h1, h⟩
        refine Ev.step (fun k => by rw [prec_cores.l0]) (ev_neg (by omega) (ev_neg (by omega) (ev_pos rfl (ev_neg h2 ?_))))
        rw [cmp64, if_neg (fun h => h2 ((z _ _).mp h))]
        exact ev_bind (Ev.now _) (Ev.now _)
      · refine ev_neg h1 ?_
        rw [cmp64, if_neg (fun h => h1 ((z _ _).mp h))]
        exact ev_bind (Ev.now _) (Ev.now _)
    · refine ev_neg h0 ?_
      rw [cmp64, if_neg (fun h => h0 ((z _ _).mp h))]
      exact ev_bind (Ev.now _) (Ev.now _)
  unfold prec_cores.f
  by_cases h0 : a0 = b0
  · refine ev_pos h0 ?_
    by_cases h1 : a1 = b1
    · refine ev_pos h1 ?_
      by_cases h2 : a2 = b2
      · refine ev_pos h2 (ev_now ?_)
        rw [h0, h1, h2, good_int.list.refl]
      · exact ev_neg h2 (hne fun h => h2 h.2.2)
    · exact ev_neg h1 (hne fun h => h1 h.2.1)
  · exact ev_neg h0 (hne fun h => h0 h.1)

/-- A row ahead of a version's release: none stands last. -/
def preKey (p : List (List UInt8)) : Int × List (List UInt8) := if p = [] then (1, []) else (0, p)
theorem preKey_inj (p q : List (List UInt8)) (h : preKey p = preKey q) : p = q := by
  unfold preKey at h
  by_cases hp : p = [] <;> by_cases hq : q = [] <;> simp [hp, hq] at h ⊢
  exact h
def cmpPre (p q : List (List UInt8)) : Int := cmpTo cmpI (cmpLs cmpId) (preKey p) (preKey q)
theorem good_pre : Cmps cmpPre := (good_int.to good_rows).comap preKey preKey_inj
def cmpV : List Int × List (List UInt8) → List Int × List (List UInt8) → Int := cmpTo (cmpLs cmpI) cmpPre
theorem good_v : Cmps cmpV := good_int.list.to good_pre
def cmpF : (List Int × List (List UInt8)) × List (List UInt8) → (List Int × List (List UInt8)) × List (List UInt8) → Int := cmpTo cmpV (cmpLs cmpId)
theorem good_f : Cmps cmpF := good_v.to good_rows
def ok (p : List ByteArray) : Prop := p.length ≤ 140737488351232 ∧ ∀ s ∈ p, s.size ≤ 140737488351232
theorem dl_nil (p : List ByteArray) : dl p = [] ↔ (p.length : Int) = 0 := by cases p <;> simp [dl]; omega

theorem compare_ev (a0 a1 a2 : Int) (p pb : List ByteArray) (b0 b1 b2 : Int) (q qb : List ByteArray) (hp : ok p) (hq : ok q) :
    Ev (fun k => prec_Compare.f k a0 a1 a2 p pb b0 b1 b2 q qb) (cmpV ([a0, a1, a2], dl p) ([b0, b1, b2], dl q)) := by
  unfold prec_Compare.f prec_core.f
  refine ev_bind (Ev.now _) (ev_bind (Ev.now _) (ev_bind (cores_ev a0 a1 a2 b0 b1 b2) ?_))
  unfold cmpV cmpTo
  by_cases h : cmpLs cmpI [a0, a1, a2] [b0, b1, b2] = 0
  · refine ev_bind (Ev.now _) (ev_neg (by simp [h]) (ev_bind (Ev.now _) (ev_bind (Ev.now _) ?_)))
    simp only
    rw [if_pos h]
    have hp0 : ((p.length : Int) == 0) = decide (dl p = []) := by rw [Bool.eq_iff_iff, beq_iff_eq, decide_eq_true_eq, dl_nil]
    have hq0 : ((q.length : Int) == 0) = decide (dl q = []) := by rw [Bool.eq_iff_iff, beq_iff_eq, decide_eq_true_eq, dl_nil]
    rw [hp0, hq0]
    have hj : ∀ c, c = (decide (dl p = []) && decide (dl q = [])) → Ev (fun k => prec_Compare.j0 k (decide (dl p = [])) (decide (dl q = [])) c a0 a1 a2 p pb b0 b1 b2 q qb) (cmpPre (dl p) (dl q)) := by
      intro c hc
      refine Ev.step (fun k => by rw [prec_Compare.j0]) ?_
      unfold cmpPre preKey cmpTo
      by_cases e1 : dl p = [] <;> by_cases e2 : dl q = []
      · rw [decide_eq_true e1, decide_eq_true e2] at hc ⊢
        subst hc
        refine ev_pos rfl (ev_now ?_)
        rw [if_pos e1, if_pos e2]; rfl
      · rw [decide_eq_true e1, decide_eq_false e2] at hc ⊢
        subst hc
        refine ev_neg (by simp) (ev_pos rfl (ev_now ?_))
        rw [if_pos e1, if_neg e2]; rfl
      · rw [decide_eq_false e1, decide_eq_true e2] at hc ⊢
        subst hc
        refine ev_neg (by simp) (ev_neg (by simp) (ev_pos rfl (ev_now ?_)))
        rw [if_neg e1, if_pos e2]; rfl
      · rw [decide_eq_false e1, decide_eq_false e2] at hc ⊢
        subst hc
        refine ev_neg (by simp) (ev_neg (by simp) (ev_neg (by simp) (ev_bind (rows_ev p q hp.2 hq.2 hp.1) (ev_now ?_))))
        rw [if_neg e1, if_neg e2]; rfl
    by_cases e1 : dl p = []
    · refine ev_pos (decide_eq_true e1) (hj _ ?_)
      rw [decide_eq_true e1, Bool.true_and]
    · refine ev_neg (by simpa using e1) (hj _ ?_)
      rw [decide_eq_false e1, Bool.false_and]
  · refine ev_bind (Ev.now _) (ev_pos (by simpa using h) (ev_now ?_))
    simp only
    rw [if_neg h]
theorem full_ev (a0 a1 a2 : Int) (p pb : List ByteArray) (b0 b1 b2 : Int) (q qb : List ByteArray) (hp : ok p) (hq : ok q) (hpb : ok pb) (hqb : ok qb) :
    Ev (fun k => prec_Full.f k a0 a1 a2 p pb b0 b1 b2 q qb) (cmpF (([a0, a1, a2], dl p), dl pb) (([b0, b1, b2], dl q), dl qb)) := by
  unfold prec_Full.f
  refine ev_bind (compare_ev a0 a1 a2 p pb b0 b1 b2 q qb hp hq) ?_
  unfold cmpF
  rw [cmpTo]
  by_cases h : cmpV ([a0, a1, a2], dl p) ([b0, b1, b2], dl q) = 0
  · refine ev_pos h (ev_bind (rows_ev pb qb hpb.2 hqb.2 hpb.1) (ev_now ?_))
    rw [if_pos h]
  · refine ev_neg h (ev_now ?_)
    rw [if_neg h]

def shortB (p q : List ByteArray) : Bool := decide (p.length ≤ 40) && decide (q.length ≤ 40) && p.all (fun s => decide (s.size ≤ 300)) && q.all (fun s => decide (s.size ≤ 300))
theorem shortB_ok {p q : List ByteArray} (h : shortB p q = true) : ok p ∧ ok q := by
  unfold shortB at h
  simp only [Bool.and_eq_true, decide_eq_true_eq, List.all_eq_true] at h
  obtain ⟨⟨⟨h1, h2⟩, h3⟩, h4⟩ := h
  exact ⟨⟨by omega, fun s hs => by have := h3 s hs; omega⟩, ⟨by omega, fun s hs => by have := h4 s hs; omega⟩⟩
theorem short_l1 (a b c : Int) (p q : List ByteArray) (hl : q.length ≤ 40) (d : Nat) : ∀ n : Nat, q.length - n = d → n ≤ q.length → Ev (fun k => ferrulelaw04_short.l1 k (n : Int) a b c p q) ((q.drop n).all fun s => decide (s.size ≤ 300)) := by
  induction d with
  | zero =>
    intro n hd hn
    refine Ev.step (fun k => by rw [ferrulelaw04_short.l1]) (ev_neg (by omega) (ev_now ?_))
    rw [List.drop_eq_nil_of_le (by omega)]
    rfl
  | succ d ih =>
    intro n hd hn
    have hlt : n < q.length := by omega
    refine Ev.step (fun k => by rw [ferrulelaw04_short.l1]) (ev_pos (by omega) (ev_pos (by omega) ?_))
    rw [drop_one q n hlt, rdOf_get q n hlt, List.all_cons]
    by_cases h : (q[n].size : Int) > 300
    · refine ev_pos h (ev_now ?_)
      rw [decide_eq_false (by omega), Bool.false_and]
    · refine ev_neg h ?_
      rw [decide_eq_true (by omega), Bool.true_and, wrap64_in (by omega) (by omega), show (n : Int) + 1 = ((n + 1 : Nat) : Int) by omega]
      exact ih (n + 1) (by omega) (by omega)
theorem short_l0 (a b c : Int) (p q : List ByteArray) (hp : p.length ≤ 40) (hl : q.length ≤ 40) (d : Nat) : ∀ n : Nat, p.length - n = d → n ≤ p.length → Ev (fun k => ferrulelaw04_short.l0 k (n : Int) a b c p q) (((p.drop n).all fun s => decide (s.size ≤ 300)) && (q.all fun s => decide (s.size ≤ 300))) := by
  induction d with
  | zero =>
    intro n hd hn
    refine Ev.step (fun k => by rw [ferrulelaw04_short.l0]) (ev_neg (by omega) ?_)
    rw [List.drop_eq_nil_of_le (by omega), List.all_nil, Bool.true_and]
    exact short_l1 a b c p q hl _ 0 rfl (by omega)
  | succ d ih =>
    intro n hd hn
    have hlt : n < p.length := by omega
    refine Ev.step (fun k => by rw [ferrulelaw04_short.l0]) (ev_pos (by omega) (ev_pos (by omega) ?_))
    rw [drop_one p n hlt, rdOf_get p n hlt, List.all_cons]
    by_cases h : (p[n].size : Int) > 300
    · refine ev_pos h (ev_now ?_)
      rw [decide_eq_false (by omega), Bool.false_and, Bool.false_and]
    · refine ev_neg h ?_
      rw [decide_eq_true (by omega), Bool.true_and, wrap64_in (by omega) (by omega), show (n : Int) + 1 = ((n + 1 : Nat) : Int) by omega]
      exact ih (n + 1) (by omega) (by omega)
theorem short_ev (a b c : Int) (p q : List ByteArray) : Ev (fun k => ferrulelaw04_short.f k a b c p q) (shortB p q) := by
  unfold ferrulelaw04_short.f shortB
  have hj1 : Ev (fun k => ferrulelaw04_short.j0 k true a b c p q) false := Ev.step (fun k => by rw [ferrulelaw04_short.j0]) (ev_pos rfl (Ev.now _))
  by_cases h1 : (p.length : Int) > 40
  · refine ev_pos h1 ?_
    rw [decide_eq_false (show ¬ p.length ≤ 40 by omega)]
    exact hj1
  · refine ev_neg h1 ?_
    rw [decide_eq_true (show p.length ≤ 40 by omega)]
    by_cases h2 : (q.length : Int) > 40
    · rw [decide_eq_true h2, decide_eq_false (show ¬ q.length ≤ 40 by omega)]
      exact hj1
    · rw [decide_eq_false h2, decide_eq_true (show q.length ≤ 40 by omega)]
      refine Ev.step (fun k => by rw [ferrulelaw04_short.j0]) (ev_neg (by simp) ?_)
      exact short_l0 a b c p q (by omega) (by omega) _ 0 rfl (by omega)
end Go.Proofs.YtildmfegfkiknaaDoor.Prec04
