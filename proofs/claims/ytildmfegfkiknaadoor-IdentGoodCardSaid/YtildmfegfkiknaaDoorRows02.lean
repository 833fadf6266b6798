/- Rows of identifiers: how two stand; which are short. -/
import Derived.Test.YtildmfegfkiknaaDoorIdent02
import Derived.Test.YtildmfegfkiknaaDoorXn20
namespace Go.Proofs.YtildmfegfkiknaaDoor.Rows02
open Go.RowKit Go.Proofs.YtildmfegfkiknaaDoorW.PrintWords Go.Proofs.YtildmfegfkiknaaDoorW.PrintMore Go.Proofs.YtildmfegfkiknaaDoor.Aid Go.Proofs.YtildmfegfkiknaaDoor.X Go.Proofs.YtildmfegfkiknaaDoor.Ord Go.Proofs.YtildmfegfkiknaaDoor.Ident02

def dl (l : List ByteArray) : List (List UInt8) := l.map fun s => s.data.toList
theorem rdOf_get (l : List ByteArray) (n : Nat) (h : n < l.length) : rdOf ByteArray.empty l (n : Int) = l[n] := by
  unfold rdOf
  rw [List.getD_eq_getElem?_getD, show ((n : Int)).toNat = n by omega, List.getElem?_eq_getElem h]
  rfl
theorem drop_one {α : Type} (l : List α) (n : Nat) (h : n < l.length) : l.drop n = l[n] :: l.drop (n + 1) := List.drop_eq_getElem_cons h
theorem rows_l0 (a b : List ByteArray) (ha : ∀ s ∈ a, s.size ≤ 140737488351232) (hb : ∀ s ∈ b, s.size ≤ 140737488351232) (la : a.length ≤ 140737488351232) (d : Nat) : ∀ n : Nat, a.length - n = d → n ≤ a.length →
    Ev (fun k => slices_CompareFunc_string_string_string_string__of18.l0 k a b a (a.length : Int) (n : Int)) (cmpLs cmpId ((dl a).drop n) ((dl b).drop n)) := by
  induction d with
  | zero =>
    intro n hd hn
    refine Ev.step (fun k => by rw [slices_CompareFunc_string_string_string_string__of18.l0]) (ev_neg (by omega) ?_)
    have e : (dl a).drop n = [] := List.drop_eq_nil_of_le (by simp [dl]; omega)
    rw [e]
    by_cases h : (a.length : Int) < (b.length : Int)
    · refine ev_pos h (ev_now ?_)
      rw [drop_one (dl b) n (by simp [dl]; omega)]
      rfl
    · refine ev_neg h (ev_now ?_)
      rw [List.drop_eq_nil_of_le (by simp [dl]; omega)]
      rfl
  | succ d ih =>
    intro n hd hn
    have hlt : n < a.length := by omega
    refine Ev.step (fun k => by rw [slices_CompareFunc_string_string_string_string__of18.l0]) (ev_pos (by omega) (ev_pos (by omega) (ev_pos (by omega) ?_)))
    rw [drop_one (dl a) n (by simp [dl]; omega)]
    by_cases h : (n : Int) ≥ (b.length : Int)
    · refine ev_pos h (ev_now ?_)
      rw [show (dl b).drop n = [] from List.drop_eq_nil_of_le (by simp [dl]; omega)]
      rfl
    · refine ev_neg h (ev_pos (by omega) ?_)
      have hlb : n < b.length := by omega
      rw [drop_one (dl b) n (by simp [dl]; omega), rdOf_get a n hlt, rdOf_get b n hlb]
      refine ev_bind (compare_ev _ _ (ha _ (List.getElem_mem hlt)) (hb _ (List.getElem_mem hlb))) ?_
      simp only [cmpLs, dl, List.getElem_map]
      by_cases h0 : cmpId a[n].data.toList b[n].data.toList = 0
      · refine ev_pos h0 ?_
        rw [if_pos h0, wrap64_in (by omega) (by omega), show (n : Int) + 1 = ((n + 1 : Nat) : Int) by omega]
        exact ih (n + 1) (by omega) (by omega)
      · refine ev_neg h0 (ev_now ?_)
        rw [if_neg h0]
theorem rows_ev (a b : List ByteArray) (ha : ∀ s ∈ a, s.size ≤ 140737488351232) (hb : ∀ s ∈ b, s.size ≤ 140737488351232) (la : a.length ≤ 140737488351232) : Ev (fun k => ident_Rows.f k a b) (cmpLs cmpId (dl a) (dl b)) := by
  unfold ident_Rows.f ident_rows_string__of18.f slices_CompareFunc_string_string_string_string__of18.f
  exact ev_bind (ev_bind (rows_l0 a b ha hb la _ 0 rfl (by omega)) (Ev.now _)) (Ev.now _)
theorem good_rows : Cmps (cmpLs cmpId) := good_id.list
theorem dl_inj {a b : List ByteArray} (h : dl a = dl b) : a = b := by
  unfold dl at h
  refine (List.map_inj_right fun x y hxy => ?_).mp h
  cases x; cases y
  simp only at hxy
  congr 1
  exact Array.toList_inj.mp hxy
end Go.Proofs.YtildmfegfkiknaaDoor.Rows02
