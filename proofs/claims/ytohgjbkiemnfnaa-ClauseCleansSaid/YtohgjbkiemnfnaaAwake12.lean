/- What the statements of layer 12 ask first. -/
import Derived.Test.YtohgjbkiemnfnaaClause12
import Derived.Test.YtohgjbkiemnfnaaXn30
import Derived.KernelRfl
namespace Go.Proofs.Ytohgjbkiemnfnaa.Awake12
open Go.RowKit Go.Proofs.Ytohgjbkiemnfnaa.X Go.Proofs.YtohgjbkiemnfnaaW.PrintWords Go.Proofs.Ytohgjbkiemnfnaa.Aid Go.Proofs.Ytohgjbkiemnfnaa.Clause12
theorem sort1 : ([3, -1, 3] : List Int).mergeSort slices_SortFunc_int_int__of68.le = [-1, 3, 3] := by
  simp [List.mergeSort, List.MergeSort.Internal.splitInTwo, slices_SortFunc_int_int__of68.le, ltOf, slices_SortFunc_int_int__of68.cf, slices_SortFunc_int_int__of68.cmpI, clause_abs.p]
theorem sort2 : ([2, 3] : List Int).mergeSort slices_SortFunc_int_int__of68.le = [2, 3] := by
  simp [List.mergeSort, List.MergeSort.Internal.splitInTwo, slices_SortFunc_int_int__of68.le, ltOf, slices_SortFunc_int_int__of68.cf, slices_SortFunc_int_int__of68.cmpI, clause_abs.p]
theorem clean1 : cleanP [3, -1, 3] = ([-1, 3], false) := by
  have h : sortP [3, -1, 3] = [-1, 3, 3] := by
    unfold sortP
    rw [show ([3, -1, 3] : List Int).filter (fun x => decide (clause_abs.p x > 0)) = [3, -1, 3] by decide]
    exact sort1
  unfold cleanP cleanD
  rw [h]
  decide
theorem clean2 : cleanP [2, 3] = ([2, 3], false) := by
  have h : sortP [2, 3] = [2, 3] := by
    unfold sortP
    rw [show ([2, 3] : List Int).filter (fun x => decide (clause_abs.p x > 0)) = [2, 3] by decide]
    exact sort2
  unfold cleanP cleanD
  rw [h]
  decide
theorem abs_some (x : Int) : clause_abs.f x = some (clause_abs.p x) := rfl
theorem resolve_ev : Ev (fun k => clause_Resolve.f k [1, 2] [-1, 3] 1) ([2, 3], true) := by
  unfold clause_Resolve.f
  refine ev_neg (by decide +kernel) (ev_neg (by decide +kernel) ?_)
  refine ev_bind (a := true) (Ev.of (slices_Contains_int_int.mono _ _) (k := 20) (by kernel_rfl)) (ev_pos rfl ?_)
  refine ev_bind (a := false) (Ev.of (slices_Contains_int_int.mono _ _) (k := 20) (by kernel_rfl)) (ev_neg (by simp) ?_)
  refine ev_bind (a := true) (Ev.of (slices_Contains_int_int.mono _ _) (k := 20) (by kernel_rfl)) (ev_pos rfl ?_)
  refine ev_bind (a := false) (Ev.of (slices_Contains_int_int.mono _ _) (k := 20) (by kernel_rfl)) ?_
  refine Ev.step (fun k => by rw [clause_Resolve.j0]) (ev_neg (by simp) ?_)
  refine ev_bind (a := [1, 2, -1, 3]) (Ev.of (slices_Concat_int_int.mono _) (k := 20) (by kernel_rfl)) ?_
  refine Ev.step (fun k => by rw [clause_Resolve.l0]) ?_
  refine ev_pos (by decide +kernel) (ev_pos (by decide +kernel) (ev_pos (by decide +kernel) ?_))
  rw [abs_some]
  refine ev_bind (Ev.now _) ?_
  refine ev_pos (by decide +kernel) ?_
  refine Ev.step (fun k => by rw [clause_Resolve.l0]) ?_
  refine ev_pos (by decide +kernel) (ev_pos (by decide +kernel) (ev_pos (by decide +kernel) ?_))
  rw [abs_some]
  refine ev_bind (Ev.now _) ?_
  refine ev_neg (by decide +kernel) (ev_pos (by decide +kernel) ?_)
  refine Ev.step (fun k => by rw [clause_Resolve.l0]) ?_
  refine ev_pos (by decide +kernel) (ev_pos (by decide +kernel) (ev_pos (by decide +kernel) ?_))
  rw [abs_some]
  refine ev_bind (Ev.now _) ?_
  refine ev_pos (by decide +kernel) ?_
  refine Ev.step (fun k => by rw [clause_Resolve.l0]) ?_
  refine ev_pos (by decide +kernel) (ev_pos (by decide +kernel) (ev_pos (by decide +kernel) ?_))
  rw [abs_some]
  refine ev_bind (Ev.now _) ?_
  refine ev_neg (by decide +kernel) (ev_pos (by decide +kernel) ?_)
  refine Ev.step (fun k => by rw [clause_Resolve.l0]) ?_
  refine ev_neg (by decide +kernel) ?_
  rw [show ([] ++ [rd [1, 2, -1, 3] (wrap64 (0 + 1))] ++ [rd [1, 2, -1, 3] (wrap64 (wrap64 (wrap64 (0 + 1) + 1) + 1))] : List Int) = [2, 3] by decide +kernel]
  have h := clean_ev [2, 3] (by decide)
  rw [clean2] at h
  exact ev_bind h (Ev.now _)
theorem awake_ev : Ev (fun k => ferrulelaw12_awake.f k) true := by
  unfold ferrulelaw12_awake.f
  have h := clean_ev [3, -1, 3] (by decide)
  rw [clean1] at h
  refine ev_bind h (ev_bind resolve_ev ?_)
  refine ev_bind (a := true) (Ev.of (ferruleref12_Same.mono _ _) (k := 20) (by kernel_rfl)) (ev_pos rfl (ev_neg (by simp) (ev_pos rfl ?_)))
  refine ev_bind (a := true) (Ev.of (ferruleref12_Same.mono _ _) (k := 20) (by kernel_rfl)) (ev_pos rfl ?_)
  refine ev_bind (a := [[false, true], [true, false], [true, true]]) (ev_done (by kernel_rfl)) (ev_now ?_)
  rfl
end Go.Proofs.Ytohgjbkiemnfnaa.Awake12
