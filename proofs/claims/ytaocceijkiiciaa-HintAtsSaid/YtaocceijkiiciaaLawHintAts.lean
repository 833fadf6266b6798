-- Written by a program of this session (wip/xp), out of the translation. Not trusted: Lean checks it.
import Derived.Test.YtaocceijkiiciaaRows
import Derived.Test.YtaocceijkiiciaaXn6
import Derived.Test.YtaocceijkiiciaaPureHintAts
import Derived.Test.YtaocceijkiiciaaOpen
import Derived.WalkKit
import Derived.ProofKit
import Derived.OpenShut
import Derived.ShutString
import Derived.ChangeOld
import Derived.Below
import Derived.SizedLaws
import Derived.Test.YtaocceijkiiciaaWb
-- shrunk
namespace Go.Proofs.Ytaocceijkiiciaa.hintAts
open Go.ChangeShapes Go.WideShapes Go.ChangeAt Go.RowKit Go.Proofs.Ytaocceijkiiciaa.X Go.Proofs.YtaocceijkiiciaaW.PrintWords
open Go.ChangeMaps (open_string shut_string)
set_option linter.unusedVariables false
theorem own : ownKnob Try.prog.godebug = none := by kernel_rfl
theorem laidOut : laidOutB Try.prog = true := by kernel_rfl
theorem op40 (m : Nat) : Open.Op Try.prog (m + 2) 40 k40 v40 :=
 Open.op_mono (V := fun x : S40 => (fun p : ((List Int) × ((List Bool) × ((List Int) × ((List Int) × Int)))) => (fun l : (List Int) => l.length ≤ maxLen ∧ ∀ x ∈ l, (fun x : Int => (Lit.int .i64 x).wf = true) x) p.1 ∧ (fun p : ((List Bool) × ((List Int) × ((List Int) × Int))) => (fun l : (List Bool) => l.length ≤ maxLen ∧ ∀ x ∈ l, (fun _ : Bool => True) x) p.1 ∧ (fun p : ((List Int) × ((List Int) × Int)) => (fun l : (List Int) => l.length ≤ maxLen ∧ ∀ x ∈ l, (fun x : Int => (Lit.int .i64 x).wf = true) x) p.1 ∧ (fun p : ((List Int) × Int) => (fun l : (List Int) => l.length ≤ maxLen ∧ ∀ x ∈ l, (fun x : Int => (Lit.int .i64 x).wf = true) x) p.1 ∧ (fun x : Int => (Lit.int .i64 x).wf = true) p.2) p.2) p.2) p.2) (x.f0, x.f1, x.f2, x.f3, x.f4)) (Open.op_struct (m := m + 1) (n := (1 + (1 + (1 + (1 + 1))))) (V := (fun p : ((List Int) × ((List Bool) × ((List Int) × ((List Int) × Int)))) => (fun l : (List Int) => l.length ≤ maxLen ∧ ∀ x ∈ l, (fun x : Int => (Lit.int .i64 x).wf = true) x) p.1 ∧ (fun p : ((List Bool) × ((List Int) × ((List Int) × Int))) => (fun l : (List Bool) => l.length ≤ maxLen ∧ ∀ x ∈ l, (fun _ : Bool => True) x) p.1 ∧ (fun p : ((List Int) × ((List Int) × Int)) => (fun l : (List Int) => l.length ≤ maxLen ∧ ∀ x ∈ l, (fun x : Int => (Lit.int .i64 x).wf = true) x) p.1 ∧ (fun p : ((List Int) × Int) => (fun l : (List Int) => l.length ≤ maxLen ∧ ∀ x ∈ l, (fun x : Int => (Lit.int .i64 x).wf = true) x) p.1 ∧ (fun x : Int => (Lit.int .i64 x).wf = true) p.2) p.2) p.2) p.2)) (fun x : S40 => (x.f0, x.f1, x.f2, x.f3, x.f4)) (fun p : ((List Int) × ((List Bool) × ((List Int) × ((List Int) × Int)))) => (⟨p.1, p.2.1, p.2.2.1, p.2.2.2.1, p.2.2.2.2⟩ : S40)) (fun _ => rfl) Try.underlying40 (by kernel_rfl) (Open.opf_cons (off := 0) (k := 1) (n := (1 + (1 + (1 + 1)))) (V := (fun l : (List Int) => l.length ≤ maxLen ∧ ∀ x ∈ l, (fun x : Int => (Lit.int .i64 x).wf = true) x)) (V2 := (fun p : ((List Bool) × ((List Int) × ((List Int) × Int))) => (fun l : (List Bool) => l.length ≤ maxLen ∧ ∀ x ∈ l, (fun _ : Bool => True) x) p.1 ∧ (fun p : ((List Int) × ((List Int) × Int)) => (fun l : (List Int) => l.length ≤ maxLen ∧ ∀ x ∈ l, (fun x : Int => (Lit.int .i64 x).wf = true) x) p.1 ∧ (fun p : ((List Int) × Int) => (fun l : (List Int) => l.length ≤ maxLen ∧ ∀ x ∈ l, (fun x : Int => (Lit.int .i64 x).wf = true) x) p.1 ∧ (fun x : Int => (Lit.int .i64 x).wf = true) p.2) p.2) p.2)) _ (by rfl) (by kernel_rfl) (Open.op_slice Try.underlying22 (by kernel_rfl) (m) (Open.op_int Try.underlying3 m)) (Open.opf_cons (off := (0 + 1)) (k := 1) (n := (1 + (1 + 1))) (V := (fun l : (List Bool) => l.length ≤ maxLen ∧ ∀ x ∈ l, (fun _ : Bool => True) x)) (V2 := (fun p : ((List Int) × ((List Int) × Int)) => (fun l : (List Int) => l.length ≤ maxLen ∧ ∀ x ∈ l, (fun x : Int => (Lit.int .i64 x).wf = true) x) p.1 ∧ (fun p : ((List Int) × Int) => (fun l : (List Int) => l.length ≤ maxLen ∧ ∀ x ∈ l, (fun x : Int => (Lit.int .i64 x).wf = true) x) p.1 ∧ (fun x : Int => (Lit.int .i64 x).wf = true) p.2) p.2)) _ (by rfl) (by kernel_rfl) (Open.op_slice Try.underlying23 (by kernel_rfl) (m) (Open.op_bool Try.underlying4 m)) (Open.opf_cons (off := ((0 + 1) + 1)) (k := 1) (n := (1 + 1)) (V := (fun l : (List Int) => l.length ≤ maxLen ∧ ∀ x ∈ l, (fun x : Int => (Lit.int .i64 x).wf = true) x)) (V2 := (fun p : ((List Int) × Int) => (fun l : (List Int) => l.length ≤ maxLen ∧ ∀ x ∈ l, (fun x : Int => (Lit.int .i64 x).wf = true) x) p.1 ∧ (fun x : Int => (Lit.int .i64 x).wf = true) p.2)) _ (by rfl) (by kernel_rfl) (Open.op_slice Try.underlying22 (by kernel_rfl) (m) (Open.op_int Try.underlying3 m)) (Open.opf_cons (off := (((0 + 1) + 1) + 1)) (k := 1) (n := 1) (V := (fun l : (List Int) => l.length ≤ maxLen ∧ ∀ x ∈ l, (fun x : Int => (Lit.int .i64 x).wf = true) x)) (V2 := (fun x : Int => (Lit.int .i64 x).wf = true)) _ (by rfl) (by kernel_rfl) (Open.op_slice Try.underlying22 (by kernel_rfl) (m) (Open.op_int Try.underlying3 m)) (Open.opf_one (off := ((((0 + 1) + 1) + 1) + 1)) (n := 1) (V := (fun x : Int => (Lit.int .i64 x).wf = true)) _ (by rfl) (by kernel_rfl) (Open.op_int Try.underlying3 (m + 1)))))))) (fun _ h => h)
set_option maxRecDepth 100000 in
theorem lifted (os : Os) (started : os.Started) (H : Type) (enc : TypeId × Value → H) :
  ReturnsInHanded {} Try.checked os 6 .any (Rows.hintAtsSpec.pre6 enc Try.prog Try.f6 Rows.hintAtsRow.domain false) (Rows.hintAtsSpec.post enc Try.prog Try.f6 false true false false) := by
 refine returnsInHanded_of_change_sized (C := Try.checked) own started (by kernel_rfl) Try.func6
  (ChangeSpec.witness6 (enc := enc) (C := Try.checked) false ⟨#[], #[.agg #[.slice none 0 0, .slice none 0 0, .slice none 0 0, .slice none 0 0, .int .i64 0], .int .i64 0, .int .i64 0], []⟩ 8 (by kernel_rfl) (by kernel_rfl) (by kernel_rfl) (by kernel_rfl)) ?_
 intro W base args ds gs before hval0 hW hcnd hsz0 _
 have hsz : (DataW.weightsEach Try.prog (Try.f6.params.toList ++ Rows.hintAtsSpec.plain.varTypes Try.prog) (ds ++ gs)).all (· ≤ reachBytes) = true := hsz0
 have hval : ∀ (j : Nat) t v, Try.f6.params[j]? = some t → args[j]? = some v → Value.okWide Try.prog W .any base t v := hval0
 have hW' := hW
 obtain ⟨p, q, hA0, hV, rfl, hfz, hnd⟩ := hW
 have hA : DataW.TrodAll enc Try.prog W 0 (fun _ => true) true Try.f6.params.toList args.toList ds p := hA0
 rw [Try.params6] at hA hval hsz
 obtain ⟨v0, vs0, d0, ds0, p0, q0, hargs, rfl, rfl, h0, r0⟩ := trodAll_cons hA
 obtain ⟨v1, vs1, d1, ds1, p1, q1, rfl, rfl, rfl, h1, r1⟩ := trodAll_cons r0
 obtain ⟨v2, vs2, d2, ds2, p2, q2, rfl, rfl, rfl, h2, r2⟩ := trodAll_cons r1
 obtain ⟨rfl, rfl, rfl⟩ := trodAll_nil r2
 obtain rfl : args = #[v0, v1, v2] := by cases args; simp_all
 obtain ⟨rfl, rfl⟩ := trodVars_none hV
 have k0 := h0
 have lt0 : ∀ x ∈ p0, x.block < W.heap.size := by obtain ⟨m, hm⟩ := k0; exact DataW.trod_lt m _ _ _ hm
 obtain ⟨fu0, hf0⟩ := h0
 have hf0_ := hf0
 obtain ⟨cs0, rfl, _⟩ := okWide_struct Try.underlying40 (hval 0 40 v0 rfl rfl)
 obtain ⟨x0, K0, V0⟩ := (op40 fu0) enc W 0 _ true fu0 _ _ (by omega) hf0
 obtain ⟨A0_0, c0_0, A0_1, c0_1, A0_2, c0_2, A0_3, c0_3, e0, hc0_0, hr0_0, hc0_1, hr0_1, hc0_2, hr0_2, hc0_3, hr0_3⟩ := k40_open K0
 obtain rfl : cs0 = #[.slice A0_0 x0.f0.length c0_0, .slice A0_1 x0.f1.length c0_1, .slice A0_2 x0.f2.length c0_2, .slice A0_3 x0.f3.length c0_3, .int .i64 x0.f4] := by cases cs0; simpa [Value.cells] using e0
 obtain ⟨a1, rfl, rfl, rfl, w1⟩ := open_int Try.underlying3 (hval 1 3 v1 rfl rfl) h1
 obtain ⟨a2, rfl, rfl, rfl, w2⟩ := open_int Try.underlying3 (hval 2 3 v2 rfl rfl) h2
 clear hA0 hval0 hsz0 hsz
 obtain ⟨k, h⟩ := Pure.HintAts x0.f0 x0.f1 x0.f2 x0.f3 x0.f4 a1 a2 V0.1 V0.2.1 V0.2.2.1 V0.2.2.2.1 V0.2.2.2.2 w1 w2
 refine (X.ferrulelaw20_HintAts.calls k _ _ x0.f0 _ _ x0.f1 _ _ x0.f2 _ _ x0.f3 x0.f4 a1 a2 true W hr0_0 hc0_0 hr0_1 hc0_1 hr0_2 hc0_2 hr0_3 hc0_3 h).mono fun e W' ⟨he, bel0⟩ => ?_
 have bel : Below W.heap.size W W' := bel0
 subst he
 exact ⟨_, rfl, _, _, _, [], _, [], hW', trodAll_mk1 (shut_bool Try.underlying4 _), (trodAll_cons_mk (Below.trod laidOut (by kernel_rfl) (of_decide_eq_true (by kernel_rfl)) k0 bel lt0) (trodAll_cons_mk (shut_int Try.underlying3 w1) (trodAll_cons_mk (shut_int Try.underlying3 w2) trodAll_mk0))), rfl, bel.frame _, fun h => by cases h⟩
theorem over : Rows.hintAtsRow.holds Try.pinned (OpenSpec.ofChange Rows.hintAtsSpec) :=
 OpenClaim.holds_of_wide 6 Try.f6 rfl rfl rfl rfl rfl rfl rfl ⟨rfl, rfl, rfl, rfl, rfl⟩ rfl rfl rfl rfl rfl (by kernel_rfl) Try.func6 (by kernel_rfl)
  (of_decide_eq_true (by kernel_rfl)) (by unfold Func.isWrapper; first | (rw [if_pos (by decide +kernel)]; kernel_rfl) | (rw [if_neg (by decide +kernel)]; exact ⟨rfl, rfl⟩))
  (fun os started H enc _ => lifted os started H enc)
theorem proved : Rows.HintAtsSaid := over
#print axioms proved
end Go.Proofs.Ytaocceijkiiciaa.hintAts
namespace Go.Proofs.Ytaocceijkiiciaa
/-- The row, under a short name, for the claim. -/
theorem hintAts_holds : Rows.HintAtsSaid := hintAts.proved
end Go.Proofs.Ytaocceijkiiciaa
