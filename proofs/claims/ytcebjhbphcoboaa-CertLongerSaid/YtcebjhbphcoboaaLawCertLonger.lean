-- Written by a program of this session (wip/xp), out of the translation. Not trusted: Lean checks it.
import Derived.Test.YtcebjhbphcoboaaRows
import Derived.Test.YtcebjhbphcoboaaCn8
import Derived.Test.YtcebjhbphcoboaaPureCertLonger
import Derived.Test.YtcebjhbphcoboaaOpen
import Derived.WalkKit
import Derived.ProofKit
import Derived.OpenShut
import Derived.ShutString
import Derived.ChangeOld
import Derived.Below
import Derived.SizedLaws
import Derived.Test.YtcebjhbphcoboaaWb
-- shrunk
namespace Go.Proofs.Ytcebjhbphcoboaa.certLonger
open Go.ChangeShapes Go.WideShapes Go.ChangeAt Go.RowKit Go.Proofs.Ytcebjhbphcoboaa.C Go.Proofs.YtcebjhbphcoboaaW.PrintWords
open Go.ChangeMaps (open_string shut_string)
set_option linter.unusedVariables false
theorem own : ownKnob Try.prog.godebug = none := by kernel_rfl
theorem laidOut : laidOutB Try.prog = true := by kernel_rfl
theorem op95 (m : Nat) : Open.Op Try.prog (m + 2) 95 k95 v95 :=
 Open.op_mono (V := fun x : S95 => (fun p : (Int × (List Int)) => (fun x : Int => (Lit.int .i64 x).wf = true) p.1 ∧ (fun l : (List Int) => l.length ≤ maxLen ∧ ∀ x ∈ l, (fun x : Int => (Lit.int .i64 x).wf = true) x) p.2) (x.f0, x.f1)) (Open.op_struct (m := m + 1) (n := (1 + 1)) (V := (fun p : (Int × (List Int)) => (fun x : Int => (Lit.int .i64 x).wf = true) p.1 ∧ (fun l : (List Int) => l.length ≤ maxLen ∧ ∀ x ∈ l, (fun x : Int => (Lit.int .i64 x).wf = true) x) p.2)) (fun x : S95 => (x.f0, x.f1)) (fun p : (Int × (List Int)) => (⟨p.1, p.2⟩ : S95)) (fun _ => rfl) Try.underlying95 (by kernel_rfl) (Open.opf_cons (off := 0) (k := 1) (n := 1) (V := (fun x : Int => (Lit.int .i64 x).wf = true)) (V2 := (fun l : (List Int) => l.length ≤ maxLen ∧ ∀ x ∈ l, (fun x : Int => (Lit.int .i64 x).wf = true) x)) _ (by rfl) (by kernel_rfl) (Open.op_int Try.underlying3 (m + 1)) (Open.opf_one (off := (0 + 1)) (n := 1) (V := (fun l : (List Int) => l.length ≤ maxLen ∧ ∀ x ∈ l, (fun x : Int => (Lit.int .i64 x).wf = true) x)) _ (by rfl) (by kernel_rfl) (Open.op_slice Try.underlying46 (by kernel_rfl) (m) (Open.op_int Try.underlying3 m))))) (fun _ h => h)
theorem op52 (m : Nat) : Open.Op Try.prog (m + 4) 52 k52 v52 :=
 Open.op_mono (V := fun x : S52 => (fun p : ((List Int) × (List S95)) => (fun l : (List Int) => l.length ≤ maxLen ∧ ∀ x ∈ l, (fun x : Int => (Lit.int .i64 x).wf = true) x) p.1 ∧ (fun l : (List S95) => l.length ≤ maxLen ∧ ∀ x ∈ l, v95 x) p.2) (x.f0, x.f1)) (Open.op_struct (m := m + 3) (n := (1 + 1)) (V := (fun p : ((List Int) × (List S95)) => (fun l : (List Int) => l.length ≤ maxLen ∧ ∀ x ∈ l, (fun x : Int => (Lit.int .i64 x).wf = true) x) p.1 ∧ (fun l : (List S95) => l.length ≤ maxLen ∧ ∀ x ∈ l, v95 x) p.2)) (fun x : S52 => (x.f0, x.f1)) (fun p : ((List Int) × (List S95)) => (⟨p.1, p.2⟩ : S52)) (fun _ => rfl) Try.underlying52 (by kernel_rfl) (Open.opf_cons (off := 0) (k := 1) (n := 1) (V := (fun l : (List Int) => l.length ≤ maxLen ∧ ∀ x ∈ l, (fun x : Int => (Lit.int .i64 x).wf = true) x)) (V2 := (fun l : (List S95) => l.length ≤ maxLen ∧ ∀ x ∈ l, v95 x)) _ (by rfl) (by kernel_rfl) (Open.op_slice Try.underlying46 (by kernel_rfl) ((m + 2)) (Open.op_int Try.underlying3 (m + 2))) (Open.opf_one (off := (0 + 1)) (n := 1) (V := (fun l : (List S95) => l.length ≤ maxLen ∧ ∀ x ∈ l, v95 x)) _ (by rfl) (by kernel_rfl) (Open.op_slice Try.underlying50 (by kernel_rfl) (m + 2) (op95 m))))) (fun _ h => h)
set_option maxRecDepth 100000 in
theorem lifted (os : Os) (started : os.Started) (H : Type) (enc : TypeId × Value → H) :
  ReturnsInHanded {} Try.checked os 8 .any (Rows.certLongerSpec.pre6 enc Try.prog Try.f8 Rows.certLongerRow.domain false) (Rows.certLongerSpec.post enc Try.prog Try.f8 false true false false) := by
 refine returnsInHanded_of_change_sized (C := Try.checked) own started (by kernel_rfl) Try.func8
  (ChangeSpec.witness6 (enc := enc) (C := Try.checked) false ⟨#[], #[.agg #[.slice none 0 0, .slice none 0 0], .int .u16 0, .int .u8 0], []⟩ 8 (by kernel_rfl) (by kernel_rfl) (by kernel_rfl) (by kernel_rfl)) ?_
 intro W base args ds gs before hval0 hW hcnd hsz0 _
 have hsz : (DataW.weightsEach Try.prog (Try.f8.params.toList ++ Rows.certLongerSpec.plain.varTypes Try.prog) (ds ++ gs)).all (· ≤ reachBytes) = true := hsz0
 have hval : ∀ (j : Nat) t v, Try.f8.params[j]? = some t → args[j]? = some v → Value.okWide Try.prog W .any base t v := hval0
 have hW' := hW
 obtain ⟨p, q, hA0, hV, rfl, hfz, hnd⟩ := hW
 have hA : DataW.TrodAll enc Try.prog W 0 (fun _ => true) true Try.f8.params.toList args.toList ds p := hA0
 rw [Try.params8] at hA hval hsz
 obtain ⟨v0, vs0, d0, ds0, p0, q0, hargs, rfl, rfl, h0, r0⟩ := trodAll_cons hA
 obtain ⟨v1, vs1, d1, ds1, p1, q1, rfl, rfl, rfl, h1, r1⟩ := trodAll_cons r0
 obtain ⟨v2, vs2, d2, ds2, p2, q2, rfl, rfl, rfl, h2, r2⟩ := trodAll_cons r1
 obtain ⟨rfl, rfl, rfl⟩ := trodAll_nil r2
 obtain rfl : args = #[v0, v1, v2] := by cases args; simp_all
 obtain ⟨rfl, rfl⟩ := trodVars_none hV
 have k0 := h0
 have lt0 : ∀ x ∈ p0, x.block < W.heap.size := by obtain ⟨m, hm⟩ := k0; exact DataW.trod_lt m _ _ _ hm
 obtain ⟨fu0, hf0⟩ := h0
 have hf0_ := hf0
 obtain ⟨cs0, rfl, _⟩ := okWide_struct Try.underlying52 (hval 0 52 v0 rfl rfl)
 obtain ⟨x0, K0, V0⟩ := (op52 fu0) enc W 0 _ true fu0 _ _ (by omega) hf0
 obtain ⟨A0_0, c0_0, A0_1, c0_1, e0, hc0_0, hr0_0, hc0_1, hr0_1⟩ := k52_open K0
 obtain rfl : cs0 = #[.slice A0_0 x0.f0.length c0_0, .slice A0_1 x0.f1.length c0_1] := by cases cs0; simpa [Value.cells] using e0
 obtain ⟨a1, rfl, rfl, rfl, w1⟩ := open_int Try.underlying31 (hval 1 31 v1 rfl rfl) h1
 obtain ⟨a2, rfl, rfl, rfl, w2⟩ := open_int Try.underlying5 (hval 2 5 v2 rfl rfl) h2
 clear hA0 hval0 hsz0 hsz
 have h := Pure.CertLonger x0.f0 x0.f1 a1 a2 V0.1 V0.2 w1 w2
 refine (C.ferrulelaw23_CertLonger.calls _ _ x0.f0 _ _ x0.f1 a1 a2 true W hr0_0 hc0_0 hr0_1 hc0_1 h).mono fun e W' ⟨he, bel0⟩ => ?_
 have bel : Below W.heap.size W W' := bel0
 subst he
 exact ⟨_, rfl, _, _, _, [], _, [], hW', trodAll_mk1 (shut_bool Try.underlying4 _), (trodAll_cons_mk (Below.trod laidOut (by kernel_rfl) (of_decide_eq_true (by kernel_rfl)) k0 bel lt0) (trodAll_cons_mk (shut_int Try.underlying31 w1) (trodAll_cons_mk (shut_int Try.underlying5 w2) trodAll_mk0))), rfl, bel.frame _, fun h => by cases h⟩
theorem over : Rows.certLongerRow.holds Try.pinned (OpenSpec.ofChange Rows.certLongerSpec) :=
 OpenClaim.holds_of_wide 8 Try.f8 rfl rfl rfl rfl rfl rfl rfl ⟨rfl, rfl, rfl, rfl, rfl⟩ rfl rfl rfl rfl rfl (by kernel_rfl) Try.func8 (by kernel_rfl)
  (of_decide_eq_true (by kernel_rfl)) (by unfold Func.isWrapper; first | (rw [if_pos (by decide +kernel)]; kernel_rfl) | (rw [if_neg (by decide +kernel)]; exact ⟨rfl, rfl⟩))
  (fun os started H enc _ => lifted os started H enc)
theorem proved : Rows.CertLongerSaid := over
#print axioms proved
end Go.Proofs.Ytcebjhbphcoboaa.certLonger
namespace Go.Proofs.Ytcebjhbphcoboaa
/-- The row, under a short name, for the claim. -/
theorem certLonger_holds : Rows.CertLongerSaid := certLonger.proved
end Go.Proofs.Ytcebjhbphcoboaa
