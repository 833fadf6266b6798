-- Written by a program of this session (wip/xp), out of the translation. Not trusted: Lean checks it.
import Derived.Test.YtohgjbkiemnfnaaRows
import Derived.Test.YtohgjbkiemnfnaaXn3
import Derived.Test.YtohgjbkiemnfnaaPureAtomsVars
import Derived.Test.YtohgjbkiemnfnaaOpen
import Derived.WalkKit
import Derived.ProofKit
import Derived.OpenShut
import Derived.ShutString
import Derived.ChangeOld
import Derived.Below
import Derived.SizedLaws
import Derived.Test.YtohgjbkiemnfnaaWb
-- shrunk
namespace Go.Proofs.Ytohgjbkiemnfnaa.atomsVars
open Go.ChangeShapes Go.WideShapes Go.ChangeAt Go.RowKit Go.Proofs.Ytohgjbkiemnfnaa.X Go.Proofs.YtohgjbkiemnfnaaW.PrintWords
open Go.ChangeMaps (open_string shut_string)
set_option linter.unusedVariables false
theorem own : ownKnob Try.prog.godebug = none := by kernel_rfl
theorem laidOut : laidOutB Try.prog = true := by kernel_rfl
theorem op24 (m : Nat) : Open.Op Try.prog (m + 1) 24 k24 v24 :=
 Open.op_mono (V := fun x : S24 => (fun p : (Int × (Int × Int)) => (fun x : Int => (Lit.int .i64 x).wf = true) p.1 ∧ (fun p : (Int × Int) => (fun x : Int => (Lit.int .i64 x).wf = true) p.1 ∧ (fun x : Int => (Lit.int .i64 x).wf = true) p.2) p.2) (x.f0, x.f1, x.f2)) (Open.op_struct (m := m + 0) (n := (1 + (1 + 1))) (V := (fun p : (Int × (Int × Int)) => (fun x : Int => (Lit.int .i64 x).wf = true) p.1 ∧ (fun p : (Int × Int) => (fun x : Int => (Lit.int .i64 x).wf = true) p.1 ∧ (fun x : Int => (Lit.int .i64 x).wf = true) p.2) p.2)) (fun x : S24 => (x.f0, x.f1, x.f2)) (fun p : (Int × (Int × Int)) => (⟨p.1, p.2.1, p.2.2⟩ : S24)) (fun _ => rfl) Try.underlying24 (by kernel_rfl) (Open.opf_cons (off := 0) (k := 1) (n := (1 + 1)) (V := (fun x : Int => (Lit.int .i64 x).wf = true)) (V2 := (fun p : (Int × Int) => (fun x : Int => (Lit.int .i64 x).wf = true) p.1 ∧ (fun x : Int => (Lit.int .i64 x).wf = true) p.2)) _ (by rfl) (by kernel_rfl) (Open.op_int Try.underlying3 m) (Open.opf_cons (off := (0 + 1)) (k := 1) (n := 1) (V := (fun x : Int => (Lit.int .i64 x).wf = true)) (V2 := (fun x : Int => (Lit.int .i64 x).wf = true)) _ (by rfl) (by kernel_rfl) (Open.op_int Try.underlying3 m) (Open.opf_one (off := ((0 + 1) + 1)) (n := 1) (V := (fun x : Int => (Lit.int .i64 x).wf = true)) _ (by rfl) (by kernel_rfl) (Open.op_int Try.underlying3 m))))) (fun _ h => h)
set_option maxRecDepth 100000 in
theorem lifted (os : Os) (started : os.Started) (H : Type) (enc : TypeId × Value → H) :
  ReturnsInHanded {} Try.checked os 3 .any (Rows.atomsVarsSpec.pre6 enc Try.prog Try.f3 Rows.atomsVarsRow.domain false) (Rows.atomsVarsSpec.post enc Try.prog Try.f3 false true false false) := by
 refine returnsInHanded_of_change_sized (C := Try.checked) own started (by kernel_rfl) Try.func3
  (ChangeSpec.witness6 (enc := enc) (C := Try.checked) false ⟨#[], #[.slice none 0 0, .agg #[.int .i64 0, .int .i64 0, .int .i64 0], .int .i64 0], []⟩ 8 (by kernel_rfl) (by kernel_rfl) (by kernel_rfl) (by kernel_rfl)) ?_
 intro W base args ds gs before hval0 hW hcnd hsz0 _
 have hsz : (DataW.weightsEach Try.prog (Try.f3.params.toList ++ Rows.atomsVarsSpec.plain.varTypes Try.prog) (ds ++ gs)).all (· ≤ reachBytes) = true := hsz0
 have hval : ∀ (j : Nat) t v, Try.f3.params[j]? = some t → args[j]? = some v → Value.okWide Try.prog W .any base t v := hval0
 have hW' := hW
 obtain ⟨p, q, hA0, hV, rfl, hfz, hnd⟩ := hW
 have hA : DataW.TrodAll enc Try.prog W 0 (fun _ => true) true Try.f3.params.toList args.toList ds p := hA0
 rw [Try.params3] at hA hval hsz
 obtain ⟨v0, vs0, d0, ds0, p0, q0, hargs, rfl, rfl, h0, r0⟩ := trodAll_cons hA
 obtain ⟨v1, vs1, d1, ds1, p1, q1, rfl, rfl, rfl, h1, r1⟩ := trodAll_cons r0
 obtain ⟨v2, vs2, d2, ds2, p2, q2, rfl, rfl, rfl, h2, r2⟩ := trodAll_cons r1
 obtain ⟨rfl, rfl, rfl⟩ := trodAll_nil r2
 obtain rfl : args = #[v0, v1, v2] := by cases args; simp_all
 obtain ⟨rfl, rfl⟩ := trodVars_none hV
 have k0 := h0
 have lt0 : ∀ x ∈ p0, x.block < W.heap.size := by obtain ⟨m, hm⟩ := k0; exact DataW.trod_lt m _ _ _ hm
 obtain ⟨fu0, hf0⟩ := h0
 have hf0_ := hf0
 obtain ⟨b0, len0, cap0, rfl⟩ := okWide_slice Try.underlying22 (hval 0 22 v0 rfl rfl)
 obtain ⟨l0, ⟨A0, c0, e0, hc0, hr0⟩, V0⟩ := (Open.op_slice Try.underlying22 (by kernel_rfl) (fu0) (Open.op_int Try.underlying3 fu0)) enc W 0 _ true fu0 _ _ (by omega) hf0
 simp [Value.cells] at e0
 obtain ⟨rfl, rfl, rfl⟩ := e0
 have k1 := h1
 have lt1 : ∀ x ∈ p1, x.block < W.heap.size := by obtain ⟨m, hm⟩ := k1; exact DataW.trod_lt m _ _ _ hm
 obtain ⟨fu1, hf1⟩ := h1
 have hf1_ := hf1
 obtain ⟨cs1, rfl, _⟩ := okWide_struct Try.underlying24 (hval 1 24 v1 rfl rfl)
 obtain ⟨x1, K1, V1⟩ := (op24 fu1) enc W 0 _ true fu1 _ _ (by omega) hf1
 have e1 := k24_open K1
 obtain rfl : cs1 = #[.int .i64 x1.f0, .int .i64 x1.f1, .int .i64 x1.f2] := by cases cs1; simpa [Value.cells] using e1
 obtain ⟨a2, rfl, rfl, rfl, w2⟩ := open_int Try.underlying3 (hval 2 3 v2 rfl rfl) h2
 clear hA0 hval0 hsz0 hsz
 have h := Pure.AtomsVars l0 x1.f0 x1.f1 x1.f2 a2 V0.1 V0.2 V1.1 V1.2.1 V1.2.2 w2
 refine (X.ferrulelaw13_AtomsVars.calls _ _ l0 x1.f0 x1.f1 x1.f2 a2 true W hr0 hc0 h).mono fun e W' ⟨he, bel0⟩ => ?_
 have bel : Below W.heap.size W W' := bel0
 subst he
 exact ⟨_, rfl, _, _, _, [], _, [], hW', trodAll_mk1 (shut_bool Try.underlying4 _), (trodAll_cons_mk (Below.trod laidOut (by kernel_rfl) (of_decide_eq_true (by kernel_rfl)) k0 bel lt0) (trodAll_cons_mk (Below.trod laidOut (by kernel_rfl) (of_decide_eq_true (by kernel_rfl)) k1 bel lt1) (trodAll_cons_mk (shut_int Try.underlying3 w2) trodAll_mk0))), rfl, bel.frame _, fun h => by cases h⟩
theorem over : Rows.atomsVarsRow.holds Try.pinned (OpenSpec.ofChange Rows.atomsVarsSpec) :=
 OpenClaim.holds_of_wide 3 Try.f3 rfl rfl rfl rfl rfl rfl rfl ⟨rfl, rfl, rfl, rfl, rfl⟩ rfl rfl rfl rfl rfl (by kernel_rfl) Try.func3 (by kernel_rfl)
  (of_decide_eq_true (by kernel_rfl)) (by unfold Func.isWrapper; first | (rw [if_pos (by decide +kernel)]; kernel_rfl) | (rw [if_neg (by decide +kernel)]; exact ⟨rfl, rfl⟩))
  (fun os started H enc _ => lifted os started H enc)
theorem proved : Rows.AtomsVarsSaid := over
#print axioms proved
end Go.Proofs.Ytohgjbkiemnfnaa.atomsVars
namespace Go.Proofs.Ytohgjbkiemnfnaa
/-- The row, under a short name, for the claim. -/
theorem atomsVars_holds : Rows.AtomsVarsSaid := atomsVars.proved
end Go.Proofs.Ytohgjbkiemnfnaa
