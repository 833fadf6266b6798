-- Written by a program of this session (wip/xp), out of the translation. Not trusted: Lean checks it.
import Derived.Test.YtildmfegfkiknaaDoorRows
import Derived.Test.YtildmfegfkiknaaDoorXn10
import Derived.Test.YtildmfegfkiknaaDoorPurePrecBuilds
import Derived.Test.YtildmfegfkiknaaDoorOpen
import Derived.WalkKit
import Derived.ProofKit
import Derived.OpenShut
import Derived.ShutString
import Derived.ChangeOld
import Derived.Below
import Derived.SizedLaws
import Derived.Test.YtildmfegfkiknaaDoorWb
import Derived.LaidMore
import Derived.LaidHandle
import Derived.SevenTiedAt
import Derived.Test.YtildmfegfkiknaaDoorTie
import Derived.Test.YtildmfegfkiknaaDoorCards
-- shrunk
namespace Go.Proofs.YtildmfegfkiknaaDoor.precBuilds
open Go.ChangeShapes Go.WideShapes Go.ChangeAt Go.RowKit Go.Proofs.YtildmfegfkiknaaDoor.X Go.Proofs.YtildmfegfkiknaaDoorW.PrintWords
open Go.ChangeMaps (open_string shut_string)
set_option linter.unusedVariables false
theorem own : ownKnob Tryd.prog.godebug = none := by kernel_rfl
theorem laidOut : laidOutB Tryd.prog = true := by kernel_rfl
theorem op40 (m : Nat) : Open.Op Tryd.prog (m + 2) 40 k40 v40 :=
 Open.op_mono (V := fun x : S40 => (fun p : (Int × (Int × (Int × ((List ByteArray) × (List ByteArray))))) => (fun x : Int => (Lit.int .u64 x).wf = true) p.1 ∧ (fun p : (Int × (Int × ((List ByteArray) × (List ByteArray)))) => (fun x : Int => (Lit.int .u64 x).wf = true) p.1 ∧ (fun p : (Int × ((List ByteArray) × (List ByteArray))) => (fun x : Int => (Lit.int .u64 x).wf = true) p.1 ∧ (fun p : ((List ByteArray) × (List ByteArray)) => (fun l : (List ByteArray) => l.length ≤ maxLen ∧ ∀ x ∈ l, (fun s : ByteArray => s.size ≤ maxLen) x) p.1 ∧ (fun l : (List ByteArray) => l.length ≤ maxLen ∧ ∀ x ∈ l, (fun s : ByteArray => s.size ≤ maxLen) x) p.2) p.2) p.2) p.2) (x.f0, x.f1, x.f2, x.f3, x.f4)) (Open.op_struct (m := m + 1) (n := (1 + (1 + (1 + (1 + 1))))) (V := (fun p : (Int × (Int × (Int × ((List ByteArray) × (List ByteArray))))) => (fun x : Int => (Lit.int .u64 x).wf = true) p.1 ∧ (fun p : (Int × (Int × ((List ByteArray) × (List ByteArray)))) => (fun x : Int => (Lit.int .u64 x).wf = true) p.1 ∧ (fun p : (Int × ((List ByteArray) × (List ByteArray))) => (fun x : Int => (Lit.int .u64 x).wf = true) p.1 ∧ (fun p : ((List ByteArray) × (List ByteArray)) => (fun l : (List ByteArray) => l.length ≤ maxLen ∧ ∀ x ∈ l, (fun s : ByteArray => s.size ≤ maxLen) x) p.1 ∧ (fun l : (List ByteArray) => l.length ≤ maxLen ∧ ∀ x ∈ l, (fun s : ByteArray => s.size ≤ maxLen) x) p.2) p.2) p.2) p.2)) (fun x : S40 => (x.f0, x.f1, x.f2, x.f3, x.f4)) (fun p : (Int × (Int × (Int × ((List ByteArray) × (List ByteArray))))) => (⟨p.1, p.2.1, p.2.2.1, p.2.2.2.1, p.2.2.2.2⟩ : S40)) (fun _ => rfl) Tryd.underlying40 (by kernel_rfl) (Open.opf_cons (off := 0) (k := 1) (n := (1 + (1 + (1 + 1)))) (V := (fun x : Int => (Lit.int .u64 x).wf = true)) (V2 := (fun p : (Int × (Int × ((List ByteArray) × (List ByteArray)))) => (fun x : Int => (Lit.int .u64 x).wf = true) p.1 ∧ (fun p : (Int × ((List ByteArray) × (List ByteArray))) => (fun x : Int => (Lit.int .u64 x).wf = true) p.1 ∧ (fun p : ((List ByteArray) × (List ByteArray)) => (fun l : (List ByteArray) => l.length ≤ maxLen ∧ ∀ x ∈ l, (fun s : ByteArray => s.size ≤ maxLen) x) p.1 ∧ (fun l : (List ByteArray) => l.length ≤ maxLen ∧ ∀ x ∈ l, (fun s : ByteArray => s.size ≤ maxLen) x) p.2) p.2) p.2)) _ (by rfl) (by kernel_rfl) (Open.op_int Tryd.underlying38 (m + 1)) (Open.opf_cons (off := (0 + 1)) (k := 1) (n := (1 + (1 + 1))) (V := (fun x : Int => (Lit.int .u64 x).wf = true)) (V2 := (fun p : (Int × ((List ByteArray) × (List ByteArray))) => (fun x : Int => (Lit.int .u64 x).wf = true) p.1 ∧ (fun p : ((List ByteArray) × (List ByteArray)) => (fun l : (List ByteArray) => l.length ≤ maxLen ∧ ∀ x ∈ l, (fun s : ByteArray => s.size ≤ maxLen) x) p.1 ∧ (fun l : (List ByteArray) => l.length ≤ maxLen ∧ ∀ x ∈ l, (fun s : ByteArray => s.size ≤ maxLen) x) p.2) p.2)) _ (by rfl) (by kernel_rfl) (Open.op_int Tryd.underlying38 (m + 1)) (Open.opf_cons (off := ((0 + 1) + 1)) (k := 1) (n := (1 + 1)) (V := (fun x : Int => (Lit.int .u64 x).wf = true)) (V2 := (fun p : ((List ByteArray) × (List ByteArray)) => (fun l : (List ByteArray) => l.length ≤ maxLen ∧ ∀ x ∈ l, (fun s : ByteArray => s.size ≤ maxLen) x) p.1 ∧ (fun l : (List ByteArray) => l.length ≤ maxLen ∧ ∀ x ∈ l, (fun s : ByteArray => s.size ≤ maxLen) x) p.2)) _ (by rfl) (by kernel_rfl) (Open.op_int Tryd.underlying38 (m + 1)) (Open.opf_cons (off := (((0 + 1) + 1) + 1)) (k := 1) (n := 1) (V := (fun l : (List ByteArray) => l.length ≤ maxLen ∧ ∀ x ∈ l, (fun s : ByteArray => s.size ≤ maxLen) x)) (V2 := (fun l : (List ByteArray) => l.length ≤ maxLen ∧ ∀ x ∈ l, (fun s : ByteArray => s.size ≤ maxLen) x)) _ (by rfl) (by kernel_rfl) (Open.op_slice Tryd.underlying24 (by kernel_rfl) (m) (Open.op_string Tryd.underlying9 m)) (Open.opf_one (off := ((((0 + 1) + 1) + 1) + 1)) (n := 1) (V := (fun l : (List ByteArray) => l.length ≤ maxLen ∧ ∀ x ∈ l, (fun s : ByteArray => s.size ≤ maxLen) x)) _ (by rfl) (by kernel_rfl) (Open.op_slice Tryd.underlying24 (by kernel_rfl) (m) (Open.op_string Tryd.underlying9 m)))))))) (fun _ h => h)
/-- A start that meets the condition: the heap that the door's own run leaves, the pinned tables laid besides. -/
noncomputable def setVar (P : Program) (w : World) (n : String) (cs : Array Value) : World := match P.globalNamed n with
 | some g => { w with heap := w.heap.modify g fun
   | .cells _ t frozen => .cells cs t frozen
   | o => o }
 | _ => w
noncomputable def start (os : Os) : World := setVar Tryd.prog (World.doorLaid Tryd.prog 34 os) "unicode/utf8.first" ((Go.Pinned.utf8FirstZ).map fun n : Nat => Value.int .u8 (n : Int)).toArray
theorem start_met (os : Os) (args : Array Value) : laidMetH Tryd.prog Rows.precBuildsRow.laid ((start os).forCall (fun _ _ => 0) ⟨#[], args, []⟩).memory :=
 laidMetH_of_parts3 (fuel := 8) (laidMet_of_run' 8 (by kernel_rfl) (by kernel_rfl)) (by kernel_rfl) (by kernel_rfl)
set_option maxRecDepth 100000 in
theorem lifted (os : Os) (started : os.Started) (H : Type) (enc : TypeId × Value → H) :
  ReturnsInHanded {} Tryd.checked os 10 .any (fun w args => (Rows.precBuildsSpec.pre enc Tryd.prog Tryd.f10 Rows.precBuildsRow.domain false w args ∧ laidMetH Tryd.prog Rows.precBuildsRow.laid w) ∧ sizedMet enc Tryd.prog Tryd.f10 (OpenSpec.ofChange Rows.precBuildsSpec) false w args) (Rows.precBuildsSpec.post enc Tryd.prog Tryd.f10 false true false false) := by
 refine returnsInHanded_of_change_and (C := Tryd.checked) (X := fun w _ => laidMetH Tryd.prog Rows.precBuildsRow.laid w) (fun _ _ _ hh h => h.of_heap hh) own started (by kernel_rfl) Tryd.func10
  (ChangeSpec.witness_shaped (enc := enc) (C := Tryd.checked) (os := os) (X := fun w _ => laidMetH Tryd.prog Rows.precBuildsRow.laid w) false (start os) #[.agg #[.int .u64 0, .int .u64 0, .int .u64 0, .slice none 0 0, .slice none 0 0], .agg #[.int .u64 0, .int .u64 0, .int .u64 0, .slice none 0 0, .slice none 0 0]] 8 rfl (World.shaped_of_RefB (by kernel_rfl) (by kernel_rfl)) (by kernel_rfl) (by kernel_rfl) (by kernel_rfl) (start_met os _)) ?_
 intro W base args ds gs before hval0 hW hcnd hsz0 hL _
 have hsz : (DataW.weightsEach Tryd.prog (Tryd.f10.params.toList ++ Rows.precBuildsSpec.plain.varTypes Tryd.prog) (ds ++ gs)).all (· ≤ reachBytes) = true := hsz0
 have hval : ∀ (j : Nat) t v, Tryd.f10.params[j]? = some t → args[j]? = some v → Value.okWide Tryd.prog W .any base t v := hval0
 have hW' := hW
 obtain ⟨p, q, hA0, hV, rfl, hfz, hnd⟩ := hW
 have hA : DataW.TrodAll enc Tryd.prog W 0 (fun _ => true) true Tryd.f10.params.toList args.toList ds p := hA0
 rw [Tryd.params10] at hA hval hsz
 obtain ⟨v0, vs0, d0, ds0, p0, q0, hargs, rfl, rfl, h0, r0⟩ := trodAll_cons hA
 obtain ⟨v1, vs1, d1, ds1, p1, q1, rfl, rfl, rfl, h1, r1⟩ := trodAll_cons r0
 obtain ⟨rfl, rfl, rfl⟩ := trodAll_nil r1
 obtain rfl : args = #[v0, v1] := by cases args; simp_all
 obtain ⟨rfl, rfl⟩ := trodVars_none hV
 have k0 := h0
 have lt0 : ∀ x ∈ p0, x.block < W.heap.size := by obtain ⟨m, hm⟩ := k0; exact DataW.trod_lt m _ _ _ hm
 obtain ⟨fu0, hf0⟩ := h0
 have hf0_ := hf0
 obtain ⟨cs0, rfl, _⟩ := okWide_struct Tryd.underlying40 (hval 0 40 v0 rfl rfl)
 obtain ⟨x0, K0, V0⟩ := (op40 fu0) enc W 0 _ true fu0 _ _ (by omega) hf0
 obtain ⟨A0_3, c0_3, A0_4, c0_4, e0, hc0_3, hr0_3, hc0_4, hr0_4⟩ := k40_open K0
 obtain rfl : cs0 = #[.int .u64 x0.f0, .int .u64 x0.f1, .int .u64 x0.f2, .slice A0_3 x0.f3.length c0_3, .slice A0_4 x0.f4.length c0_4] := by cases cs0; simpa [Value.cells] using e0
 have k1 := h1
 have lt1 : ∀ x ∈ p1, x.block < W.heap.size := by obtain ⟨m, hm⟩ := k1; exact DataW.trod_lt m _ _ _ hm
 obtain ⟨fu1, hf1⟩ := h1
 have hf1_ := hf1
 obtain ⟨cs1, rfl, _⟩ := okWide_struct Tryd.underlying40 (hval 1 40 v1 rfl rfl)
 obtain ⟨x1, K1, V1⟩ := (op40 fu1) enc W 0 _ true fu1 _ _ (by omega) hf1
 obtain ⟨A1_3, c1_3, A1_4, c1_4, e1, hc1_3, hr1_3, hc1_4, hr1_4⟩ := k40_open K1
 obtain rfl : cs1 = #[.int .u64 x1.f0, .int .u64 x1.f1, .int .u64 x1.f2, .slice A1_3 x1.f3.length c1_3, .slice A1_4 x1.f4.length c1_4] := by cases cs1; simpa [Value.cells] using e1
 clear hA0 hval0 hsz0 hsz
 obtain ⟨k, h⟩ := Pure.PrecBuilds x0.f0 x0.f1 x0.f2 x0.f3 x0.f4 x1.f0 x1.f1 x1.f2 x1.f3 x1.f4 V0.1 V0.2.1 V0.2.2.1 V0.2.2.2.1 V0.2.2.2.2 V1.1 V1.2.1 V1.2.2.1 V1.2.2.2.1 V1.2.2.2.2
 refine (X.ferrulelaw04_PrecBuilds.calls k x0.f0 x0.f1 x0.f2 _ _ x0.f3 _ _ x0.f4 x1.f0 x1.f1 x1.f2 _ _ x1.f3 _ _ x1.f4 true W hr0_3 hc0_3 hr0_4 hc0_4 hr1_3 hc1_3 hr1_4 hc1_4 h).mono fun e W' ⟨he, bel0⟩ => ?_
 have bel : Below W.heap.size W W' := bel0
 subst he
 exact ⟨_, rfl, _, _, _, [], _, [], hW', trodAll_mk1 (shut_bool Tryd.underlying4 _), (trodAll_cons_mk (Below.trod laidOut (by kernel_rfl) (of_decide_eq_true (by kernel_rfl)) k0 bel lt0) (trodAll_cons_mk (Below.trod laidOut (by kernel_rfl) (of_decide_eq_true (by kernel_rfl)) k1 bel lt1) trodAll_mk0)), rfl, bel.frame _, fun h => by cases h⟩
theorem over : Rows.precBuildsRow.holds Tryd.pinned (OpenSpec.ofChange Rows.precBuildsSpec) :=
 OpenClaim.holds_of_wide 10 Tryd.f10 rfl rfl rfl rfl rfl rfl rfl ⟨rfl, rfl, rfl, rfl, rfl⟩ rfl rfl rfl rfl rfl (by kernel_rfl) Tryd.func10 (by kernel_rfl)
  (of_decide_eq_true (by kernel_rfl)) (by unfold Func.isWrapper; first | (rw [if_pos (by decide +kernel)]; kernel_rfl) | (rw [if_neg (by decide +kernel)]; exact ⟨rfl, rfl⟩))
  (fun os started H enc _ => lifted os started H enc)
theorem proved : Rows.PrecBuildsSaid := over
#print axioms proved
end Go.Proofs.YtildmfegfkiknaaDoor.precBuilds
namespace Go.Proofs.YtildmfegfkiknaaDoor
/-- The tied card. -/
theorem precBuilds_holds : Rows.PrecBuildsCardSaid :=
 Claim7.holds_tied_plain_at .later [] [.data, .pinned] true (true, "1bd535f53ad66338a03e98a9bd4bdf6dda77f2f8b0c2907b592fff47d5d9ddd1") false
  precBuilds.proved (fun _ h => by cases h) (by kernel_rfl) (fun _ h => by cases h) precBuilds_row_tie rfl ⟨rfl, rfl⟩ (by kernel_rfl) rfl
  (fun f fn hf hfn => by
   obtain rfl : f = 10 := Option.some.inj ((show Tryd.prog.funcNamed Rows.precBuildsRow.func = some 10 by kernel_rfl).symm.trans hf) |>.symm
   obtain rfl : fn = Tryd.f10 := (Option.some.inj (Tryd.func10.symm.trans hfn)).symm
   exact ⟨by kernel_rfl, fun j t ht => by
    rw [Tryd.params10] at ht
    have hm : t ∈ [40, 40] := by simpa using Array.mem_of_getElem? ht
    have hall : ([40, 40].all fun u => !Tryd.prog.wantsStandIn u) = true := by kernel_rfl
    exact (show Tryd.prog.wantsStandIn t = false by simpa using List.all_eq_true.1 hall t hm)⟩)
  (by kernel_rfl)
#print axioms precBuilds_holds
end Go.Proofs.YtildmfegfkiknaaDoor
