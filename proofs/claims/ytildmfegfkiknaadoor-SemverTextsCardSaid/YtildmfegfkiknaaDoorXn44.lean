-- Written by a program of this session (wip/xp), out of the translation. Not trusted: Lean checks it.
import Derived.Test.YtildmfegfkiknaaDoorX0
import Derived.Test.YtildmfegfkiknaaDoorXm
import Derived.BigCall
import Derived.LoopN
import Derived.Shelf.Strings.BuilderF
import Derived.Shelf.Strings.BuilderK
import Derived.Test.YtildmfegfkiknaaDoorLayBld
import Derived.Test.YtildmfegfkiknaaDoorLayJoin
import Derived.Test.YtildmfegfkiknaaDoorTab
-- shrunk
namespace Go.Proofs.YtildmfegfkiknaaDoor.X
open Go.RowKit Go.Proofs.YtildmfegfkiknaaDoorW.PrintWords Go.Proofs.YtildmfegfkiknaaDoorW.PrintLast Go.Proofs.YtildmfegfkiknaaDoorW.PrintMore
attribute [local go_sem] Lab.str_gtr Lab.str_leq Lab.str_geq max2_int min2_int max_two min_two max_three min_three max_four min_four   -- for this text's walks alone
set_option linter.unusedVariables false
set_option linter.unusedSimpArgs false

/-! ### semver_Text: function 44 -/
-- imports: Derived.Test.YtildmfegfkiknaaDoorLayBld Derived.Test.YtildmfegfkiknaaDoorLayJoin Derived.Test.YtildmfegfkiknaaDoorTab Derived.Shelf.Strings.BuilderF Derived.Shelf.Strings.BuilderK Derived.LoopN Derived.BigCall
def semver_Text.f (a0_0 a0_1 a0_2 : Int) (l0_3 l0_4 : List ByteArray) : Option ByteArray := (num_Text.f a0_0).bind fun t0 => (num_Text.f a0_1).bind fun t1 => (num_Text.f a0_2).bind fun t2 => (ident_Text.f l0_3).bind fun p => (ident_Text.f l0_4).bind fun q =>
 if t0.size + t1.size + t2.size + p.size + q.size + 4 ≤ 140737488355328 then some (((((((t0 ++ ⟨#[46]⟩) ++ t1) ++ ⟨#[46]⟩) ++ t2) ++ (if l0_3.length = 0 then ⟨#[]⟩ else ⟨#[45]⟩ ++ p)) ++ (if l0_4.length = 0 then ⟨#[]⟩ else ⟨#[43]⟩ ++ q))) else none
theorem semver_Text.bld_below {T e B b : Nat} {bs : List Value} {W W2 : World} (h : Lib.IsBuilderF T e B b bs W) (hb : Below W.heap.size W W2) : Lib.IsBuilderF T e B b bs W2 := by
 have one : ∀ p, Lib.BuilderAtF T e B b p bs W → Lib.BuilderAtF T e B b p bs W2 := by
  rintro p ⟨hB, v, hbk, ⟨hl, hown⟩, hne⟩
  refine ⟨hB, v, (hb.block b (blk_lt hbk)).trans hbk, ⟨hl, ?_⟩, hne⟩
  rcases hown with hn | ⟨g, cap, cur, fz, rfl, hbg, hg, rest⟩
  ·exact .inl hn
  ·exact .inr ⟨g, cap, cur, fz, rfl, hbg, (hb.block g (blk_lt hg)).trans hg, rest⟩
 exact h.imp (one _) (one _)
def semver_Text.ren167 : Go.Shelf.Ren := ⟨fun | 167 => 64 | n => Tryd.lays156_ren.f n, Tryd.lays156_ren.t, Tryd.lays156_ren.g⟩
set_option maxRecDepth 100000 in
theorem semver_Text.lays167 : Lays.n167 Tryd.prog semver_Text.ren167 := { Tryd.lays156 with
 f167 := Tryd.func64.trans (congrArg some (by kernel_rfl))
 f240 := Tryd.func82.trans (congrArg some (by kernel_rfl))
 f276 := Tryd.func93.trans (congrArg some (by kernel_rfl))
 t5 := Tryd.underlying5
 a5 := Tryd.isAgg5
 z5 := Tryd.sizeOf5
 v5 := Tryd.zeroValue5 }
set_option maxRecDepth 100000 in
theorem semver_Text.extra167 : Builder.Extra Tryd.prog semver_Text.ren167 := { strings_Join.extra with
 t5 := Tryd.underlying5
 a5 := Tryd.isAgg5
 z5 := Tryd.sizeOf5
 v5 := Tryd.zeroValue5 }
section
variable (B b : Nat) (bs : List Value) (W : World) (h : Lib.IsBuilderF 80 5 B b bs W) (hBw : B ≤ W.heap.size)
include h hBw
set_option maxRecDepth 100000 in
theorem semver_Text.wByte (c : Int) (hlen : bs.length + 1 ≤ 140737488355328) : Calls Tryd.prog 64 #[.pointer (some ⟨b, 0, none⟩), .int .u8 c] W fun e w' => e = .returned .nilIface ∧ Lib.IsBuilderF 80 5 B b (bs ++ [.int .u8 c]) w' ∧ Below B W w' :=
 (Any.Builder_WriteByte_k semver_Text.lays167 semver_Text.extra167 B b bs c W h hlen hBw).mono fun _ _ ⟨he, hb, hw, _⟩ => ⟨he, .inr hb, hw⟩
set_option maxRecDepth 100000 in
theorem semver_Text.wString (s : ByteArray) (hlen : bs.length + s.size ≤ 140737488355328) : Calls Tryd.prog 65 #[.pointer (some ⟨b, 0, none⟩), .string s] W fun e w' => e = .returned (.tuple #[.int .i64 s.size, .nilIface]) ∧ Lib.IsBuilderF 80 5 B b (bs ++ Lib.strCells s) w' ∧ Below B W w' :=
 (Any.Builder_WriteString_f (ρ := Tryd.lays156_ren) { Tryd.lays156 with } strings_Join.extra B b bs s W h hlen hBw).mono fun _ _ ⟨he, hb, hw⟩ => ⟨he, .inr hb, hw⟩
end
set_option maxRecDepth 100000 in
theorem semver_Text.wDone (B b : Nat) (l : List UInt8) (W : World) (h : Lib.IsBuilderF 80 5 B b (Lib.byteCells l) W) (hBw : B ≤ W.heap.size) : Calls Tryd.prog 67 #[.pointer (some ⟨b, 0, none⟩)] W fun e w' => e = .returned (.string ⟨l.toArray⟩) ∧ Below B W w' :=
 (Any.Builder_String_any_f (ρ := Tryd.lays156_ren) { Tryd.lays156 with } strings_Join.extra B b l W h hBw).mono fun _ _ ⟨he, _, hw⟩ => ⟨he, hw⟩
/-- What holds while the text is written: the version's box, and the builder behind it. -/
def semver_Text.TI (w : World) (CS : Array Value) (W : World) (bs : List Value) : Prop :=
 Below w.heap.size w W ∧ W.heap[w.heap.size]? = some (.cells CS 40 (0, 0)) ∧ Lib.IsBuilderF 80 5 (w.heap.size + 1) (w.heap.size + 1) bs W ∧ w.heap.size + 1 ≤ W.heap.size
theorem semver_Text.TI.start (w : World) (CS : Array Value) : semver_Text.TI w CS ((w.alloc (.cells CS 40)).alloc (.cells #[.pointer none, .slice none 0 0] 80)) [] := by
 refine ⟨((Below.refl _ w).alloc (Nat.le_refl _) _).alloc (by simp) _, ?_, .inl ⟨Nat.le_refl _, _, ?_, World.ownsRowF_nil _ _ _ _, by simp [Value.ownBlock]⟩, by simp⟩
 ·rw [Below.heap_alloc _ _ _ (by simp)]; exact heap_alloc_new w _
 ·have := heap_alloc_new (w.alloc (.cells CS 40)) (.cells #[.pointer none, .slice none 0 0] 80)
  rwa [show (w.alloc (.cells CS 40)).heap.size = w.heap.size + 1 by simp] at this
theorem semver_Text.TI.num {w W W1 : World} {CS : Array Value} {bs : List Value} (h : semver_Text.TI w CS W bs) (hb : Below W.heap.size W W1) : semver_Text.TI w CS W1 bs :=
 ⟨below_step h.1 hb, (hb.block _ (by have := h.2.2.2; omega)).trans h.2.1, semver_Text.bld_below h.2.2.1 hb, Nat.le_trans h.2.2.2 hb.size⟩
theorem semver_Text.TI.put {w W W1 : World} {CS : Array Value} {bs bs' : List Value} (h : semver_Text.TI w CS W bs) (hI : Lib.IsBuilderF 80 5 (w.heap.size + 1) (w.heap.size + 1) bs' W1) (hb : Below (w.heap.size + 1) W W1) : semver_Text.TI w CS W1 bs' :=
 ⟨h.1.trans ⟨hb.os, hb.tape, hb.output, hb.size, fun k hk => hb.block k (by omega)⟩, (hb.block _ (by omega)).trans h.2.1, hI, Nat.le_trans h.2.2.2 hb.size⟩
theorem semver_Text.TI.str {w W : World} {CS : Array Value} {bs : List Value} (h : semver_Text.TI w CS W bs) (s : ByteArray) (hlen : bs.length + s.size ≤ 140737488355328) :
  Calls Tryd.prog 65 #[.pointer (some ⟨w.heap.size + 1, 0, none⟩), .string s] W fun e w' => e = .returned (.tuple #[.int .i64 s.size, .nilIface]) ∧ semver_Text.TI w CS w' (bs ++ Lib.strCells s) :=
 (semver_Text.wString _ _ bs W h.2.2.1 h.2.2.2 s hlen).mono fun _ _ ⟨he, hI, hb⟩ => ⟨he, h.put hI hb⟩
theorem semver_Text.TI.byte {w W : World} {CS : Array Value} {bs : List Value} (h : semver_Text.TI w CS W bs) (c : Int) (hlen : bs.length + 1 ≤ 140737488355328) :
  Calls Tryd.prog 64 #[.pointer (some ⟨w.heap.size + 1, 0, none⟩), .int .u8 c] W fun e w' => e = .returned .nilIface ∧ semver_Text.TI w CS w' (bs ++ [.int .u8 c]) :=
 (semver_Text.wByte _ _ bs W h.2.2.1 h.2.2.2 c hlen).mono fun _ _ ⟨he, hI, hb⟩ => ⟨he, h.put hI hb⟩
set_option maxHeartbeats 8000000 in
set_option maxRecDepth 100000 in
theorem semver_Text.calls (a0_0 : Int) (a0_1 : Int) (a0_2 : Int) (A0_3 : Option Addr) (c0_3 : Nat) (l0_3 : List ByteArray) (A0_4 : Option Addr) (c0_4 : Nat) (l0_4 : List ByteArray) (r : ByteArray) (w : World) (hr0_3 : Kd.C Kd.string w A0_3 l0_3.length l0_3) (hc0_3 : l0_3.length ≤ c0_3) (hr0_4 : Kd.C Kd.string w A0_4 l0_4.length l0_4) (hc0_4 : l0_4.length ≤ c0_4) (h : semver_Text.f a0_0 a0_1 a0_2 l0_3 l0_4 = some r) (TT : Tab w) :
 Calls Tryd.prog 44 #[.agg #[.int .u64 a0_0, .int .u64 a0_1, .int .u64 a0_2, .slice A0_3 l0_3.length c0_3, .slice A0_4 l0_4.length c0_4]] w fun e w' => e = .returned (.string r) ∧ Below w.heap.size w w' := by
 unfold semver_Text.f at h
 replace h := Option.bind_eq_some_iff.mp h
 obtain ⟨t0, h0, h⟩ := h
 replace h := Option.bind_eq_some_iff.mp h
 obtain ⟨t1, h1, h⟩ := h
 replace h := Option.bind_eq_some_iff.mp h
 obtain ⟨t2, h2, h⟩ := h
 replace h := Option.bind_eq_some_iff.mp h
 obtain ⟨p, hp, h⟩ := h
 replace h := Option.bind_eq_some_iff.mp h
 obtain ⟨q, hq, h⟩ := h
 split at h
 case isFalse => cases h
 case isTrue hsz =>
 obtain rfl := Option.some.inj h
 clear h
 have huv := Tryd.underlying40
 have hi0 : ∀ W, (Instr.index 67 (.agg #[.int .u64 a0_0, .int .u64 a0_1, .int .u64 a0_2]) (.int .i64 0)).run Tryd.prog W = .ok (.int .u64 a0_0) W := fun W => by simp [Instr.index, run_underlying Tryd.underlying67, asIntOf, go_sem, Result.andThen, Program.cellsOf]
 have hi1 : ∀ W, (Instr.index 67 (.agg #[.int .u64 a0_0, .int .u64 a0_1, .int .u64 a0_2]) (.int .i64 1)).run Tryd.prog W = .ok (.int .u64 a0_1) W := fun W => by simp [Instr.index, run_underlying Tryd.underlying67, asIntOf, go_sem, Result.andThen, Program.cellsOf]
 have hi2 : ∀ W, (Instr.index 67 (.agg #[.int .u64 a0_0, .int .u64 a0_1, .int .u64 a0_2]) (.int .i64 2)).run Tryd.prog W = .ok (.int .u64 a0_2) W := fun W => by simp [Instr.index, run_underlying Tryd.underlying67, asIntOf, go_sem, Result.andThen, Program.cellsOf]
 have I0 := semver_Text.TI.start w #[.int .u64 a0_0, .int .u64 a0_1, .int .u64 a0_2, .slice A0_3 l0_3.length c0_3, .slice A0_4 l0_4.length c0_4]
 have s45 : (⟨#[45]⟩ : ByteArray).size = 1 := rfl
 have s43 : (⟨#[43]⟩ : ByteArray).size = 1 := rfl
 have lc : ∀ s : ByteArray, (Lib.strCells s).length = s.size := fun s => Lib.strCells_length s
 go_enter Tryd.func44, Tryd.ntmps44
 go_wp2
 refine wp_loop_rounds 4 ?_
 rw [rounds_succ]
 go_wp2_with (first
 | (go_at_call 66; refine (num_Text.calls a0_0 t0 _ h0 (TT.below I0.1)).mono ?_; rintro e w1 ⟨rfl, hb⟩; have I1 := I0.num hb; clear hb)
 | (go_at_call 65; refine (I1.str t0 (by simp; omega)).mono ?_; rintro e w2 ⟨rfl, I2⟩))
 rw [rounds_succ]
 go_wp2_with (first
 | (go_at_call 64; refine (I2.byte 46 (by simp [lc]; omega)).mono ?_; rintro e w3 ⟨rfl, I3⟩)
 | (go_at_call 66; refine (num_Text.calls a0_1 t1 _ h1 (TT.below I3.1)).mono ?_; rintro e w4 ⟨rfl, hb⟩; have I4 := I3.num hb; clear hb)
 | (go_at_call 65; refine (I4.str t1 (by simp [lc]; omega)).mono ?_; rintro e w5 ⟨rfl, I5⟩))
 rw [rounds_succ]
 go_wp2_with (first
 | (go_at_call 64; refine (I5.byte 46 (by simp [lc]; omega)).mono ?_; rintro e w6 ⟨rfl, I6⟩)
 | (go_at_call 66; refine (num_Text.calls a0_2 t2 _ h2 (TT.below I6.1)).mono ?_; rintro e w7 ⟨rfl, hb⟩; have I7 := I6.num hb; clear hb)
 | (go_at_call 65; refine (I7.str t2 (by simp [lc]; omega)).mono ?_; rintro e w8 ⟨rfl, I8⟩))
 have hc3 : w8.cell? ⟨w.heap.size, 3, none⟩ = some (.slice A0_3 l0_3.length c0_3) := (blk_cell I8.2.1 3).trans rfl
 have hc4 : w8.cell? ⟨w.heap.size, 4, none⟩ = some (.slice A0_4 l0_4.length c0_4) := (blk_cell I8.2.1 4).trans rfl
 have hrA := Aside0.mk hr0_3
 have hrB := Aside0.mk hr0_4
 clear hr0_3 hr0_4
 rw [rounds_succ]
 by_cases z3 : l0_3.length = 0
 ·skip
  have d3 : ((l0_3.length : Int) > 0) = False := eq_false (by omega)
  have e3 : decide ((0 : Int) < (l0_3.length : Int)) = false := decide_eq_false (by omega)
  by_cases z4 : l0_4.length = 0
  ·skip
   have d4 : ((l0_4.length : Int) > 0) = False := eq_false (by omega)
   have e4 : decide ((0 : Int) < (l0_4.length : Int)) = false := decide_eq_false (by omega)
   go_wp2_with (first | (go_at_call 67; refine (semver_Text.wDone (w.heap.size + 1) (w.heap.size + 1) (((((t0 ++ ⟨#[46]⟩) ++ t1) ++ ⟨#[46]⟩) ++ t2) : ByteArray).data.toList _ (by have hI := I8.2.2.1; simpa [Lib.strCells, Lib.byteCells, ByteArray.data_append] using hI) I8.2.2.2).mono ?_; rintro e wz ⟨rfl, hbz⟩))
   go_ret
   refine ⟨?_, I8.1.trans ⟨hbz.os, hbz.tape, hbz.output, hbz.size, fun k hk => hbz.block k (by omega)⟩⟩
   refine congrArg Ending.returned (congrArg Value.string (ByteArray.ext ?_))
   (try rw [if_pos z3])
   (try rw [if_pos z4])
   simp [ByteArray.data_append]
  ·skip
   have d4 : ((l0_4.length : Int) > 0) = True := eq_true (by omega)
   have e4 : decide ((0 : Int) < (l0_4.length : Int)) = true := decide_eq_true (by omega)
   go_wp2_with (first | (go_at_call 39; refine (ident_Text.calls A0_4 c0_4 l0_4 q _ (Kd.C_below hrB.out I8.1) hc0_4 hq).mono ?_; rintro e w9 ⟨rfl, hb⟩; have I9 := I8.num hb; clear hb) | (go_at_call 65; refine (I9.str ((⟨#[43]⟩ : ByteArray) ++ q) (by simp [lc, ByteArray.size_append, s43, s45]; omega)).mono ?_; rintro e w10 ⟨rfl, I10⟩) | (go_at_call 67; refine (semver_Text.wDone (w.heap.size + 1) (w.heap.size + 1) ((((((t0 ++ ⟨#[46]⟩) ++ t1) ++ ⟨#[46]⟩) ++ t2) ++ (⟨#[43]⟩ ++ q)) : ByteArray).data.toList _ (by have hI := I10.2.2.1; simpa [Lib.strCells, Lib.byteCells, ByteArray.data_append] using hI) I10.2.2.2).mono ?_; rintro e wz ⟨rfl, hbz⟩))
   go_ret
   refine ⟨?_, I10.1.trans ⟨hbz.os, hbz.tape, hbz.output, hbz.size, fun k hk => hbz.block k (by omega)⟩⟩
   refine congrArg Ending.returned (congrArg Value.string (ByteArray.ext ?_))
   (try rw [if_pos z3])
   (try rw [if_neg z4])
   simp [ByteArray.data_append]
 ·skip
  have d3 : ((l0_3.length : Int) > 0) = True := eq_true (by omega)
  have e3 : decide ((0 : Int) < (l0_3.length : Int)) = true := decide_eq_true (by omega)
  by_cases z4 : l0_4.length = 0
  ·skip
   have d4 : ((l0_4.length : Int) > 0) = False := eq_false (by omega)
   have e4 : decide ((0 : Int) < (l0_4.length : Int)) = false := decide_eq_false (by omega)
   go_wp2_with (first | (go_at_call 39; refine (ident_Text.calls A0_3 c0_3 l0_3 p _ (Kd.C_below hrA.out I8.1) hc0_3 hp).mono ?_; rintro e w9 ⟨rfl, hb⟩; have I9 := I8.num hb; clear hb) | (go_at_call 65; refine (I9.str ((⟨#[45]⟩ : ByteArray) ++ p) (by simp [lc, ByteArray.size_append, s45]; omega)).mono ?_; rintro e w10 ⟨rfl, I10⟩; have hc4 : w10.cell? ⟨w.heap.size, 4, none⟩ = some (.slice A0_4 l0_4.length c0_4) := (blk_cell I10.2.1 4).trans rfl) | (go_at_call 67; refine (semver_Text.wDone (w.heap.size + 1) (w.heap.size + 1) ((((((t0 ++ ⟨#[46]⟩) ++ t1) ++ ⟨#[46]⟩) ++ t2) ++ (⟨#[45]⟩ ++ p)) : ByteArray).data.toList _ (by have hI := I10.2.2.1; simpa [Lib.strCells, Lib.byteCells, ByteArray.data_append] using hI) I10.2.2.2).mono ?_; rintro e wz ⟨rfl, hbz⟩))
   go_ret
   refine ⟨?_, I10.1.trans ⟨hbz.os, hbz.tape, hbz.output, hbz.size, fun k hk => hbz.block k (by omega)⟩⟩
   refine congrArg Ending.returned (congrArg Value.string (ByteArray.ext ?_))
   (try rw [if_neg z3])
   (try rw [if_pos z4])
   simp [ByteArray.data_append]
  ·skip
   have d4 : ((l0_4.length : Int) > 0) = True := eq_true (by omega)
   have e4 : decide ((0 : Int) < (l0_4.length : Int)) = true := decide_eq_true (by omega)
   go_wp2_with (first | (go_at_call 39; refine (ident_Text.calls A0_3 c0_3 l0_3 p _ (Kd.C_below hrA.out I8.1) hc0_3 hp).mono ?_; rintro e w9 ⟨rfl, hb⟩; have I9 := I8.num hb; clear hb) | (go_at_call 65; refine (I9.str ((⟨#[45]⟩ : ByteArray) ++ p) (by simp [lc, ByteArray.size_append, s45]; omega)).mono ?_; rintro e w10 ⟨rfl, I10⟩; have hc4 : w10.cell? ⟨w.heap.size, 4, none⟩ = some (.slice A0_4 l0_4.length c0_4) := (blk_cell I10.2.1 4).trans rfl))
   go_wp2_with (first | (go_at_call 39; refine (ident_Text.calls A0_4 c0_4 l0_4 q _ (Kd.C_below hrB.out I10.1) hc0_4 hq).mono ?_; rintro e w11 ⟨rfl, hb⟩; have I11 := I10.num hb; clear hb) | (go_at_call 65; refine (I11.str ((⟨#[43]⟩ : ByteArray) ++ q) (by simp [lc, ByteArray.size_append, s43, s45]; omega)).mono ?_; rintro e w12 ⟨rfl, I12⟩) | (go_at_call 67; refine (semver_Text.wDone (w.heap.size + 1) (w.heap.size + 1) (((((((t0 ++ ⟨#[46]⟩) ++ t1) ++ ⟨#[46]⟩) ++ t2) ++ (⟨#[45]⟩ ++ p)) ++ (⟨#[43]⟩ ++ q)) : ByteArray).data.toList _ (by have hI := I12.2.2.1; simpa [Lib.strCells, Lib.byteCells, ByteArray.data_append] using hI) I12.2.2.2).mono ?_; rintro e wz ⟨rfl, hbz⟩))
   go_ret
   refine ⟨?_, I12.1.trans ⟨hbz.os, hbz.tape, hbz.output, hbz.size, fun k hk => hbz.block k (by omega)⟩⟩
   refine congrArg Ending.returned (congrArg Value.string (ByteArray.ext ?_))
   (try rw [if_neg z3])
   (try rw [if_neg z4])
   simp [ByteArray.data_append]

end Go.Proofs.YtildmfegfkiknaaDoor.X
