/- Identifiers: which are numeric, and how two, and two rows of them, stand: the program's functions come to plain ones. -/
import Derived.Test.YtildmfegfkiknaaDoorOrd
import Derived.Test.YtildmfegfkiknaaDoorIs01
import Derived.Test.YtildmfegfkiknaaDoorXn18
import Derived.Test.YtildmfegfkiknaaDoorXn51
namespace Go.Proofs.YtildmfegfkiknaaDoor.Ident02
open Go.RowKit Go.Proofs.YtildmfegfkiknaaDoorW.PrintWords Go.Proofs.YtildmfegfkiknaaDoorW.PrintMore Go.Proofs.YtildmfegfkiknaaDoor.Aid Go.Proofs.YtildmfegfkiknaaDoor.Digits Go.Proofs.YtildmfegfkiknaaDoor.X Go.Proofs.YtildmfegfkiknaaDoor.Is01 Go.Proofs.YtildmfegfkiknaaDoor.Ord

def digits : List UInt8 := [48, 49, 50, 51, 52, 53, 54, 55, 56, 57]
theorem digits_iff (c : UInt8) : digits.contains c = isd (c.toNat : Int) := by
  rw [Bool.eq_iff_iff, isd_iff]
  simp only [digits, List.contains_eq_mem, List.mem_cons, List.not_mem_nil, or_false, decide_eq_true_eq]
  constructor
  · intro h
    rcases h with rfl | rfl | rfl | rfl | rfl | rfl | rfl | rfl | rfl | rfl <;> decide
  · intro h
    have h2 : c.toNat = 48 ∨ c.toNat = 49 ∨ c.toNat = 50 ∨ c.toNat = 51 ∨ c.toNat = 52 ∨ c.toNat = 53 ∨ c.toNat = 54 ∨ c.toNat = 55 ∨ c.toNat = 56 ∨ c.toNat = 57 := by omega
    have e : ∀ n : UInt8, c.toNat = n.toNat → c = n := fun n h => UInt8.toNat_inj.mp h
    rcases h2 with h | h | h | h | h | h | h | h | h | h
    · exact .inl (e 48 h)
    · exact .inr (.inl (e 49 h))
    · exact .inr (.inr (.inl (e 50 h)))
    · exact .inr (.inr (.inr (.inl (e 51 h))))
    · exact .inr (.inr (.inr (.inr (.inl (e 52 h)))))
    · exact .inr (.inr (.inr (.inr (.inr (.inl (e 53 h))))))
    · exact .inr (.inr (.inr (.inr (.inr (.inr (.inl (e 54 h)))))))
    · exact .inr (.inr (.inr (.inr (.inr (.inr (.inr (.inl (e 55 h))))))))
    · exact .inr (.inr (.inr (.inr (.inr (.inr (.inr (.inr (.inl (e 56 h)))))))))
    · exact .inr (.inr (.inr (.inr (.inr (.inr (.inr (.inr (.inr (e 57 h)))))))))
/-- Digits alone, at least one. -/
def numB (l : List UInt8) : Bool := l.all digits.contains && !l.isEmpty
theorem dropWhile_nil_iff {α : Type} (p : α → Bool) (l : List α) : l.dropWhile p = [] ↔ l.all p = true := by
  induction l with
  | nil => simp
  | cons x l ih =>
    rw [List.dropWhile_cons, List.all_cons]
    by_cases h : p x = true
    · rw [if_pos h, ih, h, Bool.true_and]
    · rw [if_neg h]
      simp [h]
theorem trim_nil (l : List UInt8) : Lib.trimS l digits = [] ↔ l.all digits.contains = true := by
  unfold Lib.trimS Lib.trimLeftS Lib.trimRightS
  rw [dropWhile_nil_iff]
  constructor
  · intro h
    have hd : (l.reverse.dropWhile (digits.contains ·)) = [] := by
      cases e : l.reverse.dropWhile (digits.contains ·) with
      | nil => rfl
      | cons x t =>
        have hx : digits.contains x = false := by
          have := List.head?_dropWhile_not (digits.contains ·) l.reverse
          rw [e] at this
          simpa using this
        rw [e] at h
        simp only [List.reverse_cons, List.all_append, List.all_cons, List.all_nil, Bool.and_true, Bool.and_eq_true] at h
        rw [hx] at h
        exact absurd h.2 (by simp)
    rw [dropWhile_nil_iff, List.all_reverse] at hd
    exact hd
  · intro h
    have : l.reverse.dropWhile (digits.contains ·) = [] := by rw [dropWhile_nil_iff, List.all_reverse]; exact h
    rw [this]
    rfl
theorem numeric_ev (s : ByteArray) (hs : s.size ≤ 140737488351232) : ident_numeric.f s = some (numB s.data.toList) := by
  unfold ident_numeric.f numB
  rw [toList_data]
  by_cases h : s.data.toList = []
  · rw [if_pos h, h]; rfl
  · rw [if_neg h]
    unfold strings_Trim.f
    rw [if_pos ⟨by omega, by decide, by decide⟩]
    simp only [Option.bind_some, Option.some.injEq]
    rw [toList_data, Bool.eq_iff_iff]
    have hne : s.data.toList.isEmpty = false := by cases e : s.data.toList with | nil => exact absurd e h | cons _ _ => rfl
    rw [hne, Bool.not_false, Bool.and_true, beq_iff_eq]
    exact trim_nil _

def strip (l : List UInt8) : List UInt8 := l.dropWhile ([48] : List UInt8).contains
def key (l : List UInt8) : Int × Int × List UInt8 × Int := if numB l then (0, (strip l).length, strip l, l.length) else (1, 0, l, 0)
def cmpKey : Int × Int × List UInt8 × Int → Int × Int × List UInt8 × Int → Int := cmpTo cmpI (cmpTo cmpI (cmpTo (cmpLs cmpB) cmpI))
theorem good_key : Cmps cmpKey := good_int.to (good_int.to (good_byte.list.to good_int))
def cmpId (a b : List UInt8) : Int := cmpKey (key a) (key b)
theorem strip_back (l : List UInt8) : l = List.replicate (l.length - (strip l).length) 48 ++ strip l := by
  induction l with
  | nil => rfl
  | cons x l ih =>
    unfold strip at ih ⊢
    rw [List.dropWhile_cons]
    by_cases h : ([48] : List UInt8).contains x = true
    · rw [if_pos h]
      have hx : x = 48 := by simpa using h
      have hl : (l.dropWhile ([48] : List UInt8).contains).length ≤ l.length := (List.dropWhile_sublist _).length_le
      rw [List.length_cons, show l.length + 1 - (l.dropWhile ([48] : List UInt8).contains).length = (l.length - (l.dropWhile ([48] : List UInt8).contains).length) + 1 by omega, List.replicate_succ, List.cons_append, ← ih, hx]
    · rw [if_neg h, Nat.sub_self]; rfl
theorem key_inj (a b : List UInt8) (h : key a = key b) : a = b := by
  unfold key at h
  by_cases ha : numB a = true <;> by_cases hb : numB b = true <;> simp only [ha, hb, if_true] at h
  · simp only [Prod.mk.injEq, true_and] at h
    obtain ⟨_, h1, h2⟩ := h
    rw [strip_back a, strip_back b, h1]
    rw [show a.length = b.length by omega]
  · simp at h
  · simp at h
  · simp at h; exact h
theorem good_id : Cmps cmpId := good_key.comap key key_inj

theorem sign_eq (m n : Nat) (hm : m ≤ 140737488351232) (hn : n ≤ 140737488351232) : ident_sign.f (wrap64 ((m : Int) - (n : Int))) = some (cmpI m n) := by
  rw [wrap64_in (by omega) (by omega)]
  unfold ident_sign.f
  congr 1
  unfold mx mn cmpI
  (repeat' split) <;> omega
theorem trimLeft_zero (s : ByteArray) : strings_TrimLeft.f s (⟨#[48]⟩ : ByteArray) = some ⟨(strip s.data.toList).toArray⟩ := by
  unfold strings_TrimLeft.f
  rw [if_pos ⟨by decide, by decide⟩]
  rfl
theorem strip_le (l : List UInt8) : (strip l).length ≤ l.length := (List.dropWhile_sublist _).length_le
theorem size_of (l : List UInt8) : (⟨l.toArray⟩ : ByteArray).size = l.length := by
  show l.toArray.size = _
  simp
theorem compare_ev (a b : ByteArray) (ha : a.size ≤ 140737488351232) (hb : b.size ≤ 140737488351232) : Ev (fun k => ident_Compare.f k a b) (cmpId a.data.toList b.data.toList) := by
  have la : a.data.toList.length = a.size := Array.length_toList
  have lb : b.data.toList.length = b.size := Array.length_toList
  have ka := strip_le a.data.toList
  have kb := strip_le b.data.toList
  have hj1 : ∀ c, c = (numB b.data.toList && !numB a.data.toList) → (numB a.data.toList && !numB b.data.toList) = false → Ev (fun k => ident_Compare.j1 k a b (numB a.data.toList) c) (cmpId a.data.toList b.data.toList) := by
    intro c hc hn
    refine Ev.step (fun k => by rw [ident_Compare.j1]) ?_
    unfold cmpId cmpKey key
    cases hx : numB a.data.toList <;> cases hy : numB b.data.toList <;> rw [hx, hy] at hc hn
    · simp at hc
      subst hc
      refine ev_neg (by simp) (ev_neg (by simp) ?_)
      unfold strings_Compare.f
      refine ev_bind (Ev.now _) (ev_now ?_)
      rw [compareBytes_ls]
      simp only [Bool.false_eq_true, if_false, cmpTo]
      rw [show cmpI 1 1 = 0 from rfl, show cmpI 0 0 = 0 from rfl]
      simp only [if_true]
      split <;> simp_all
    · simp at hc
      subst hc
      exact ev_pos rfl (ev_now rfl)
    · simp at hn
    · simp at hc
      subst hc
      refine ev_neg (by simp) (ev_pos rfl ?_)
      rw [trimLeft_zero, trimLeft_zero]
      refine ev_bind (Ev.now _) (ev_bind (Ev.now _) ?_)
      rw [size_of, size_of, sign_eq _ _ (by omega) (by omega)]
      refine ev_bind (Ev.now _) ?_
      simp only [if_true, cmpTo]
      rw [show cmpI 0 0 = 0 from rfl]
      simp only [if_true]
      by_cases h1 : cmpI ((strip a.data.toList).length : Int) ((strip b.data.toList).length : Int) = 0
      · refine ev_pos h1 ?_
        rw [if_pos h1]
        unfold strings_Compare.f
        refine ev_bind (Ev.now _) ?_
        rw [compareBytes_ls]
        by_cases h2 : cmpLs cmpB (strip a.data.toList) (strip b.data.toList) = 0
        · refine ev_pos h2 ?_
          rw [sign_eq _ _ ha hb]
          refine ev_bind (Ev.now _) (ev_now ?_)
          rw [if_pos h2, la, lb]
        · refine ev_neg h2 (ev_now ?_)
          rw [if_neg h2]
      · refine ev_neg h1 (ev_now ?_)
        rw [if_neg h1]
  have hj0 : ∀ c, c = (numB a.data.toList && !numB b.data.toList) → Ev (fun k => ident_Compare.j0 k a b (numB a.data.toList) (numB b.data.toList) c) (cmpId a.data.toList b.data.toList) := by
    intro c hc
    refine Ev.step (fun k => by rw [ident_Compare.j0]) ?_
    cases c with
    | true =>
      refine ev_pos rfl (ev_now ?_)
      symm at hc
      rw [Bool.and_eq_true, Bool.not_eq_true'] at hc
      unfold cmpId cmpKey key
      rw [hc.1, hc.2]
      rfl
    | false =>
      refine ev_neg (by simp) ?_
      by_cases hy : numB b.data.toList = true
      · refine ev_pos hy (hj1 _ ?_ hc.symm)
        rw [hy, Bool.true_and]
      · refine ev_neg hy (hj1 _ ?_ hc.symm)
        rw [Bool.not_eq_true] at hy
        rw [hy, Bool.false_and]
  unfold ident_Compare.f
  rw [numeric_ev a ha, numeric_ev b hb]
  refine ev_bind (Ev.now _) (ev_bind (Ev.now _) ?_)
  by_cases hx : numB a.data.toList = true
  · refine ev_pos hx (hj0 _ ?_)
    rw [hx, Bool.true_and]
  · refine ev_neg hx (hj0 _ ?_)
    rw [Bool.not_eq_true] at hx
    rw [hx, Bool.false_and]
end Go.Proofs.YtildmfegfkiknaaDoor.Ident02
