-- Written by a program of this session (wip/xp), out of the translation. Not trusted: Lean checks it.
import Derived.Test.YtohgjbkiemnfnaaRows
import Derived.Test.YtohgjbkiemnfnaaRn13
import Derived.Test.YtohgjbkiemnfnaaPureRupPlays
import Derived.Test.YtohgjbkiemnfnaaOpen
import Derived.WalkKit
import Derived.ProofKit
import Derived.OpenShut
import Derived.ShutString
import Derived.ChangeOld
import Derived.Below
import Derived.SizedLaws
import Derived.Test.YtohgjbkiemnfnaaWb
-- shrunk
namespace Go.Proofs.Ytohgjbkiemnfnaa.rupPlays
open Go.ChangeShapes Go.WideShapes Go.ChangeAt Go.RowKit Go.Proofs.Ytohgjbkiemnfnaa.R Go.Proofs.YtohgjbkiemnfnaaW.PrintWords
open Go.ChangeMaps (open_string shut_string)
set_option linter.unusedVariables false
theorem own : ownKnob Try.prog.godebug = none := by kernel_rfl
theorem laidOut : laidOutB Try.prog = true := by kernel_rfl
theorem op88 (m : Nat) : Open.Op Try.prog (m + 2) 88 k88 v88 :=
 Open.op_mono (V := fun x : S88 => (fun p : (Int × (List Int)) => (fun x : Int => (Lit.int .i64 x).wf = true) p.1 ∧ (fun l : (List Int) => l.length ≤ maxLen ∧ ∀ x ∈ l, (fun x : Int => (Lit.int .i64 x).wf = true) x) p.2) (x.f0, x.f1)) (Open.op_struct (m := m + 1) (n := (1 + 1)) (V := (fun p : (Int × (List Int)) => (fun x : Int => (Lit.int .i64 x).wf = true) p.1 ∧ (fun l : (List Int) => l.length ≤ maxLen ∧ ∀ x ∈ l, (fun x : Int => (Lit.int .i64 x).wf = true) x) p.2)) (fun x : S88 => (x.f0, x.f1)) (fun p : (Int × (List Int)) => (⟨p.1, p.2⟩ : S88)) (fun _ => rfl) Try.underlying88 (by kernel_rfl) (Open.opf_cons (off := 0) (k := 1) (n := 1) (V := (fun x : Int => (Lit.int .i64 x).wf = true)) (V2 := (fun l : (List Int) => l.length ≤ maxLen ∧ ∀ x ∈ l, (fun x : Int => (Lit.int .i64 x).wf = true) x)) _ (by rfl) (by kernel_rfl) (Open.op_int Try.underlying3 (m + 1)) (Open.opf_one (off := (0 + 1)) (n := 1) (V := (fun l : (List Int) => l.length ≤ maxLen ∧ ∀ x ∈ l, (fun x : Int => (Lit.int .i64 x).wf = true) x)) _ (by rfl) (by kernel_rfl) (Open.op_slice Try.underlying22 (by kernel_rfl) (m) (Open.op_int Try.underlying3 m))))) (fun _ h => h)
set_option maxRecDepth 100000 in
theorem lifted (os : Os) (started : os.Started) (H : Type) (enc : TypeId × Value → H) :
  ReturnsInHanded {} Try.checked os 13 .any (Rows.rupPlaysSpec.pre6 enc Try.prog Try.f13 Rows.rupPlaysRow.domain false) (Rows.rupPlaysSpec.post enc Try.prog Try.f13 false true false false) := by
 refine returnsInHanded_of_change_sized (C := Try.checked) own started (by kernel_rfl) Try.func13
  (ChangeSpec.witness6 (enc := enc) (C := Try.checked) false ⟨#[], #[.slice none 0 0, .slice none 0 0], []⟩ 8 (by kernel_rfl) (by kernel_rfl) (by kernel_rfl) (by kernel_rfl)) ?_
 intro W base args ds gs before hval0 hW hcnd hsz0 _
 have hsz : (DataW.weightsEach Try.prog (Try.f13.params.toList ++ Rows.rupPlaysSpec.plain.varTypes Try.prog) (ds ++ gs)).all (· ≤ reachBytes) = true := hsz0
 have hval : ∀ (j : Nat) t v, Try.f13.params[j]? = some t → args[j]? = some v → Value.okWide Try.prog W .any base t v := hval0
 have hW' := hW
 obtain ⟨p, q, hA0, hV, rfl, hfz, hnd⟩ := hW
 have hA : DataW.TrodAll enc Try.prog W 0 (fun _ => true) true Try.f13.params.toList args.toList ds p := hA0
 rw [Try.params13] at hA hval hsz
 obtain ⟨v0, vs0, d0, ds0, p0, q0, hargs, rfl, rfl, h0, r0⟩ := trodAll_cons hA
 obtain ⟨v1, vs1, d1, ds1, p1, q1, rfl, rfl, rfl, h1, r1⟩ := trodAll_cons r0
 obtain ⟨rfl, rfl, rfl⟩ := trodAll_nil r1
 obtain rfl : args = #[v0, v1] := by cases args; simp_all
 obtain ⟨rfl, rfl⟩ := trodVars_none hV
 have k0 := h0
 have lt0 : ∀ x ∈ p0, x.block < W.heap.size := by obtain ⟨m, hm⟩ := k0; exact DataW.trod_lt m _ _ _ hm
 obtain ⟨fu0, hf0⟩ := h0
 have hf0_ := hf0
 obtain ⟨b0, len0, cap0, rfl⟩ := okWide_slice Try.underlying54 (hval 0 54 v0 rfl rfl)
 obtain ⟨l0, ⟨A0, c0, e0, hc0, hr0⟩, V0⟩ := (Open.op_slice Try.underlying54 (by kernel_rfl) (fu0 + 2) (op88 fu0)) enc W 0 _ true fu0 _ _ (by omega) hf0
 simp [Value.cells] at e0
 obtain ⟨rfl, rfl, rfl⟩ := e0
 have k1 := h1
 have lt1 : ∀ x ∈ p1, x.block < W.heap.size := by obtain ⟨m, hm⟩ := k1; exact DataW.trod_lt m _ _ _ hm
 obtain ⟨fu1, hf1⟩ := h1
 have hf1_ := hf1
 obtain ⟨b1, len1, cap1, rfl⟩ := okWide_slice Try.underlying22 (hval 1 22 v1 rfl rfl)
 obtain ⟨l1, ⟨A1, c1, e1, hc1, hr1⟩, V1⟩ := (Open.op_slice Try.underlying22 (by kernel_rfl) (fu1) (Open.op_int Try.underlying3 fu1)) enc W 0 _ true fu1 _ _ (by omega) hf1
 simp [Value.cells] at e1
 obtain ⟨rfl, rfl, rfl⟩ := e1
 clear hA0 hval0 hsz0 hsz
 have h := Pure.RupPlays l0 l1 V0 V1.1 V1.2
 refine (R.ferrulelaw22_RupPlays.calls _ _ l0 _ _ l1 true W hr0 hc0 hr1 hc1 h).mono fun e W' ⟨he, bel0⟩ => ?_
 have bel : Below W.heap.size W W' := bel0
 subst he
 exact ⟨_, rfl, _, _, _, [], _, [], hW', trodAll_mk1 (shut_bool Try.underlying4 _), (trodAll_cons_mk (Below.trod laidOut (by kernel_rfl) (of_decide_eq_true (by kernel_rfl)) k0 bel lt0) (trodAll_cons_mk (Below.trod laidOut (by kernel_rfl) (of_decide_eq_true (by kernel_rfl)) k1 bel lt1) trodAll_mk0)), rfl, bel.frame _, fun h => by cases h⟩
theorem over : Rows.rupPlaysRow.holds Try.pinned (OpenSpec.ofChange Rows.rupPlaysSpec) :=
 OpenClaim.holds_of_wide 13 Try.f13 rfl rfl rfl rfl rfl rfl rfl ⟨rfl, rfl, rfl, rfl, rfl⟩ rfl rfl rfl rfl rfl (by kernel_rfl) Try.func13 (by kernel_rfl)
  (of_decide_eq_true (by kernel_rfl)) (by unfold Func.isWrapper; first | (rw [if_pos (by decide +kernel)]; kernel_rfl) | (rw [if_neg (by decide +kernel)]; exact ⟨rfl, rfl⟩))
  (fun os started H enc _ => lifted os started H enc)
theorem proved : Rows.RupPlaysSaid := over
#print axioms proved
end Go.Proofs.Ytohgjbkiemnfnaa.rupPlays
namespace Go.Proofs.Ytohgjbkiemnfnaa
/-- The row, under a short name, for the claim. -/
theorem rupPlays_holds : Rows.RupPlaysSaid := rupPlays.proved
end Go.Proofs.Ytohgjbkiemnfnaa
