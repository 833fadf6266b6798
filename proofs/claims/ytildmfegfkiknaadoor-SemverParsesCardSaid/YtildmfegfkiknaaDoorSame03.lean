/- When two versions are one. -/
import Derived.Test.YtildmfegfkiknaaDoorAid
import Derived.Test.YtildmfegfkiknaaDoorXn37
namespace Go.Proofs.YtildmfegfkiknaaDoor.Same03
open Go.RowKit Go.Proofs.YtildmfegfkiknaaDoorW.PrintWords Go.Proofs.YtildmfegfkiknaaDoorW.PrintMore Go.Proofs.YtildmfegfkiknaaDoor.Aid Go.Proofs.YtildmfegfkiknaaDoor.X

theorem rdOf_get (l : List ByteArray) (n : Nat) (h : n < l.length) : rdOf ByteArray.empty l (n : Int) = l[n] := by
  unfold rdOf
  rw [List.getD_eq_getElem?_getD, show ((n : Int)).toNat = n by omega, List.getElem?_eq_getElem h]
  rfl
theorem text_eq (a b : ByteArray) : a.toList = b.toList ↔ a = b := by
  rw [toList_data, toList_data]
  constructor
  · intro h
    cases a; cases b
    congr 1
    exact Array.toList_inj.mp h
  · rintro rfl; rfl
theorem equal_l0 (a b : List ByteArray) (hl : a.length = b.length) (ha : a.length ≤ 140737488351232) (d : Nat) : ∀ n : Nat, a.length - n = d → n ≤ a.length → Ev (fun k => slices_Equal_string_string.l0 k a b (a.length : Int) (n : Int)) (decide (a.drop n = b.drop n)) := by
  induction d with
  | zero =>
    intro n hd hn
    refine Ev.step (fun k => by rw [slices_Equal_string_string.l0]) (ev_neg (by omega) (ev_now ?_))
    rw [List.drop_eq_nil_of_le (by omega), List.drop_eq_nil_of_le (by omega)]
    rfl
  | succ d ih =>
    intro n hd hn
    have h1 : n < a.length := by omega
    have h2 : n < b.length := by omega
    refine Ev.step (fun k => by rw [slices_Equal_string_string.l0]) (ev_pos (by omega) (ev_pos (by omega) (ev_pos (by omega) (ev_pos (by omega) ?_))))
    rw [List.drop_eq_getElem_cons h1, List.drop_eq_getElem_cons h2, rdOf_get a n h1, rdOf_get b n h2]
    by_cases h : a[n] = b[n]
    · refine ev_pos ((text_eq _ _).mpr h) ?_
      rw [wrap64_in (by omega) (by omega), show (n : Int) + 1 = ((n + 1 : Nat) : Int) by omega]
      have e : decide (a[n] :: a.drop (n + 1) = b[n] :: b.drop (n + 1)) = decide (a.drop (n + 1) = b.drop (n + 1)) := by
        rw [decide_eq_decide]
        constructor
        · intro h'; exact (List.cons.inj h').2
        · intro h'; rw [h, h']
      rw [e]
      exact ih (n + 1) (by omega) (by omega)
    · refine ev_neg (fun h' => h ((text_eq _ _).mp h')) (ev_now ?_)
      symm
      exact decide_eq_false fun h' => h (List.cons.inj h').1
theorem equal_ev (a b : List ByteArray) (ha : a.length ≤ 140737488351232) : Ev (fun k => slices_Equal_string_string.f k a b) (decide (a = b)) := by
  unfold slices_Equal_string_string.f
  by_cases h : (a.length : Int) = (b.length : Int)
  · refine ev_pos h ?_
    have := equal_l0 a b (by omega) ha _ 0 rfl (by omega)
    exact this
  · refine ev_neg h (ev_now ?_)
    symm
    exact decide_eq_false fun e => h (by rw [e])
theorem same_ev (a0 a1 a2 : Int) (p pb : List ByteArray) (b0 b1 b2 : Int) (q qb : List ByteArray) (hp : p.length ≤ 140737488351232) (hpb : pb.length ≤ 140737488351232) :
    Ev (fun k => semver_Same.f k a0 a1 a2 p pb b0 b1 b2 q qb) (decide (a0 = b0 ∧ a1 = b1 ∧ a2 = b2 ∧ p = q ∧ pb = qb)) := by
  unfold semver_Same.f
  by_cases h0 : a0 = b0
  · refine ev_pos h0 ?_
    by_cases h1 : a1 = b1
    · refine ev_pos h1 ?_
      by_cases h2 : a2 = b2
      · refine ev_pos h2 (ev_bind (equal_ev p q hp) ?_)
        by_cases h3 : p = q
        · refine ev_pos (decide_eq_true h3) (ev_bind (equal_ev pb qb hpb) (ev_now ?_))
          rw [decide_eq_decide]; simp [h0, h1, h2, h3]
        · refine ev_neg (by simpa using h3) (ev_now ?_)
          symm; exact decide_eq_false fun h => h3 h.2.2.2.1
      · refine ev_neg h2 (ev_now ?_)
        symm; exact decide_eq_false fun h => h2 h.2.2.1
    · refine ev_neg h1 (ev_now ?_)
      symm; exact decide_eq_false fun h => h1 h.2.1
  · refine ev_neg h0 (ev_now ?_)
    symm; exact decide_eq_false fun h => h0 h.1
end Go.Proofs.YtildmfegfkiknaaDoor.Same03
