-- Written by a program of this session (wip/xp), out of the translation. Not trusted: Lean checks it.
import Derived.Test.YtildmfegfkiknaaDoorX0
import Derived.Test.YtildmfegfkiknaaDoorXn31
import Derived.Test.YtildmfegfkiknaaDoorXn21
import Derived.Test.YtildmfegfkiknaaDoorXn22
import Derived.Test.YtildmfegfkiknaaDoorXn38
-- shrunk
namespace Go.Proofs.YtildmfegfkiknaaDoor.X
open Go.RowKit Go.Proofs.YtildmfegfkiknaaDoorW.PrintWords Go.Proofs.YtildmfegfkiknaaDoorW.PrintLast Go.Proofs.YtildmfegfkiknaaDoorW.PrintMore
attribute [local go_sem] Lab.str_gtr Lab.str_leq Lab.str_geq max2_int min2_int max_two min_two max_three min_three max_four min_four   -- for this text's walks alone
set_option linter.unusedVariables false
set_option linter.unusedSimpArgs false

/-! ### ferrulelaw04_PrecOrders: function 9 -/
mutual
def ferrulelaw04_PrecOrders.j0 : Nat → Bool → Int → Int → Int → List ByteArray → List ByteArray → Int → Int → Int → List ByteArray → List ByteArray → Int → Int → Int → List ByteArray → List ByteArray → Option (Bool)
 | 0, _, _, _, _, _, _, _, _, _, _, _, _, _, _, _, _ => none
 | k + 1, x21, x102000, x102001, x102002, x102003, x102004, x103000, x103001, x103002, x103003, x103004, x104000, x104001, x104002, x104003, x104004 => if x21 = true then (some true) else ((prec_Compare.f k x102000 x102001 x102002 x102003 x102004 x103000 x103001 x103002 x103003 x103004).bind fun t108 => (if t108 ≤ 0 then ((prec_Compare.f k x103000 x103001 x103002 x103003 x103004 x104000 x104001 x104002 x104003 x104004).bind fun t109 => (if t109 ≤ 0 then ((prec_Compare.f k x102000 x102001 x102002 x102003 x102004 x104000 x104001 x104002 x104003 x104004).bind fun t110 => (ferrulelaw04_PrecOrders.j1 k (decide (t110 > 0)) x102000 x102001 x102002 x102003 x102004 x103000 x103001 x103002 x103003 x103004 x104000 x104001 x104002 x104003 x104004)) else (ferrulelaw04_PrecOrders.j1 k false x102000 x102001 x102002 x102003 x102004 x103000 x103001 x103002 x103003 x103004 x104000 x104001 x104002 x104003 x104004))) else (ferrulelaw04_PrecOrders.j1 k false x102000 x102001 x102002 x102003 x102004 x103000 x103001 x103002 x103003 x103004 x104000 x104001 x104002 x104003 x104004)))
def ferrulelaw04_PrecOrders.j1 : Nat → Bool → Int → Int → Int → List ByteArray → List ByteArray → Int → Int → Int → List ByteArray → List ByteArray → Int → Int → Int → List ByteArray → List ByteArray → Option (Bool)
 | 0, _, _, _, _, _, _, _, _, _, _, _, _, _, _, _, _ => none
 | k + 1, x37, x102000, x102001, x102002, x102003, x102004, x103000, x103001, x103002, x103003, x103004, x104000, x104001, x104002, x104003, x104004 => if x37 = true then (some false) else ((prec_Full.f k x102000 x102001 x102002 x102003 x102004 x103000 x103001 x103002 x103003 x103004).bind fun t111 => (if t111 ≤ 0 then ((prec_Full.f k x103000 x103001 x103002 x103003 x103004 x104000 x104001 x104002 x104003 x104004).bind fun t112 => (if t112 ≤ 0 then ((prec_Full.f k x102000 x102001 x102002 x102003 x102004 x104000 x104001 x104002 x104003 x104004).bind fun t113 => (some (decide (t113 ≤ 0)))) else (some true))) else (some true)))
end
def ferrulelaw04_PrecOrders.f (k : Nat) (a0_0 : Int) (a0_1 : Int) (a0_2 : Int) (l0_3 : List ByteArray) (l0_4 : List ByteArray) (a1_0 : Int) (a1_1 : Int) (a1_2 : Int) (l1_3 : List ByteArray) (l1_4 : List ByteArray) (a2_0 : Int) (a2_1 : Int) (a2_2 : Int) (l2_3 : List ByteArray) (l2_4 : List ByteArray) : Option (Bool) := (ferrulelaw04_awake.f k).bind fun t104 => (if t104 = true then ((ferrulelaw04_short.f k a0_0 a0_1 a0_2 l0_3 l0_4).bind fun t105 => (if t105 = true then ((ferrulelaw04_short.f k a1_0 a1_1 a1_2 l1_3 l1_4).bind fun t106 => (if t106 = true then ((ferrulelaw04_short.f k a2_0 a2_1 a2_2 l2_3 l2_4).bind fun t107 => (ferrulelaw04_PrecOrders.j0 k (!t107) a0_0 a0_1 a0_2 l0_3 l0_4 a1_0 a1_1 a1_2 l1_3 l1_4 a2_0 a2_1 a2_2 l2_3 l2_4)) else (ferrulelaw04_PrecOrders.j0 k true a0_0 a0_1 a0_2 l0_3 l0_4 a1_0 a1_1 a1_2 l1_3 l1_4 a2_0 a2_1 a2_2 l2_3 l2_4))) else (ferrulelaw04_PrecOrders.j0 k true a0_0 a0_1 a0_2 l0_3 l0_4 a1_0 a1_1 a1_2 l1_3 l1_4 a2_0 a2_1 a2_2 l2_3 l2_4))) else (some false))
theorem ferrulelaw04_PrecOrders.mono_l : ∀ k, (∀ y0 y1 y2 y3 y4 y5 y6 y7 y8 y9 y10 y11 y12 y13 y14 y15, LeO (ferrulelaw04_PrecOrders.j0 k y0 y1 y2 y3 y4 y5 y6 y7 y8 y9 y10 y11 y12 y13 y14 y15) (ferrulelaw04_PrecOrders.j0 (k + 1) y0 y1 y2 y3 y4 y5 y6 y7 y8 y9 y10 y11 y12 y13 y14 y15)) ∧ (∀ y0 y1 y2 y3 y4 y5 y6 y7 y8 y9 y10 y11 y12 y13 y14 y15, LeO (ferrulelaw04_PrecOrders.j1 k y0 y1 y2 y3 y4 y5 y6 y7 y8 y9 y10 y11 y12 y13 y14 y15) (ferrulelaw04_PrecOrders.j1 (k + 1) y0 y1 y2 y3 y4 y5 y6 y7 y8 y9 y10 y11 y12 y13 y14 y15))
 | 0 => ⟨fun _ _ _ _ _ _ _ _ _ _ _ _ _ _ _ _ r h => by simp [ferrulelaw04_PrecOrders.j0] at h, fun _ _ _ _ _ _ _ _ _ _ _ _ _ _ _ _ r h => by simp [ferrulelaw04_PrecOrders.j1] at h⟩
 | k + 1 => by
  obtain ⟨ih0, ih1⟩ := ferrulelaw04_PrecOrders.mono_l k
  refine ⟨?_, ?_⟩
  ·intro y0 y1 y2 y3 y4 y5 y6 y7 y8 y9 y10 y11 y12 y13 y14 y15
   unfold ferrulelaw04_PrecOrders.j0
   repeat' first
   | (with_reducible exact ih0 _ _ _ _ _ _ _ _ _ _ _ _ _ _ _ _)
   | (with_reducible exact ih1 _ _ _ _ _ _ _ _ _ _ _ _ _ _ _ _)
   | (with_reducible exact ferrulelaw04_awake.mono _)
   | (with_reducible exact ferrulelaw04_short.mono _ _ _ _ _ _)
   | (with_reducible exact prec_Compare.mono _ _ _ _ _ _ _ _ _ _ _)
   | (with_reducible exact prec_Full.mono _ _ _ _ _ _ _ _ _ _ _)
   | (with_reducible exact LeO.refl _)
   | (with_reducible exact LeO.none _)
   | (with_reducible refine LeO.ite ?_ ?_)
   | (with_reducible refine LeO.bind ?_ (fun _ => ?_))
   | exact ih0 _ _ _ _ _ _ _ _ _ _ _ _ _ _ _ _
   | exact ih1 _ _ _ _ _ _ _ _ _ _ _ _ _ _ _ _
   | exact ferrulelaw04_awake.mono _
   | exact ferrulelaw04_short.mono _ _ _ _ _ _
   | exact prec_Compare.mono _ _ _ _ _ _ _ _ _ _ _
   | exact prec_Full.mono _ _ _ _ _ _ _ _ _ _ _
   | exact LeO.none _
   | refine LeO.ite ?_ ?_
   | refine LeO.bind ?_ (fun _ => ?_)
  ·intro y0 y1 y2 y3 y4 y5 y6 y7 y8 y9 y10 y11 y12 y13 y14 y15
   unfold ferrulelaw04_PrecOrders.j1
   repeat' first
   | (with_reducible exact ih0 _ _ _ _ _ _ _ _ _ _ _ _ _ _ _ _)
   | (with_reducible exact ih1 _ _ _ _ _ _ _ _ _ _ _ _ _ _ _ _)
   | (with_reducible exact ferrulelaw04_awake.mono _)
   | (with_reducible exact ferrulelaw04_short.mono _ _ _ _ _ _)
   | (with_reducible exact prec_Compare.mono _ _ _ _ _ _ _ _ _ _ _)
   | (with_reducible exact prec_Full.mono _ _ _ _ _ _ _ _ _ _ _)
   | (with_reducible exact LeO.refl _)
   | (with_reducible exact LeO.none _)
   | (with_reducible refine LeO.ite ?_ ?_)
   | (with_reducible refine LeO.bind ?_ (fun _ => ?_))
   | exact ih0 _ _ _ _ _ _ _ _ _ _ _ _ _ _ _ _
   | exact ih1 _ _ _ _ _ _ _ _ _ _ _ _ _ _ _ _
   | exact ferrulelaw04_awake.mono _
   | exact ferrulelaw04_short.mono _ _ _ _ _ _
   | exact prec_Compare.mono _ _ _ _ _ _ _ _ _ _ _
   | exact prec_Full.mono _ _ _ _ _ _ _ _ _ _ _
   | exact LeO.none _
   | refine LeO.ite ?_ ?_
   | refine LeO.bind ?_ (fun _ => ?_)
theorem ferrulelaw04_PrecOrders.mono : ∀ a0 a1 a2 a3 a4 a5 a6 a7 a8 a9 a10 a11 a12 a13 a14 k, LeO (ferrulelaw04_PrecOrders.f k a0 a1 a2 a3 a4 a5 a6 a7 a8 a9 a10 a11 a12 a13 a14) (ferrulelaw04_PrecOrders.f (k + 1) a0 a1 a2 a3 a4 a5 a6 a7 a8 a9 a10 a11 a12 a13 a14) := by
 intro a0 a1 a2 a3 a4 a5 a6 a7 a8 a9 a10 a11 a12 a13 a14 k
 obtain ⟨ih0, ih1⟩ := ferrulelaw04_PrecOrders.mono_l k
 unfold ferrulelaw04_PrecOrders.f
 repeat' first
   | (with_reducible exact ih0 _ _ _ _ _ _ _ _ _ _ _ _ _ _ _ _)
   | (with_reducible exact ih1 _ _ _ _ _ _ _ _ _ _ _ _ _ _ _ _)
   | (with_reducible exact ferrulelaw04_awake.mono _)
   | (with_reducible exact ferrulelaw04_short.mono _ _ _ _ _ _)
   | (with_reducible exact prec_Compare.mono _ _ _ _ _ _ _ _ _ _ _)
   | (with_reducible exact prec_Full.mono _ _ _ _ _ _ _ _ _ _ _)
   | (with_reducible exact LeO.refl _)
   | (with_reducible exact LeO.none _)
   | (with_reducible refine LeO.ite ?_ ?_)
   | (with_reducible refine LeO.bind ?_ (fun _ => ?_))
   | exact ih0 _ _ _ _ _ _ _ _ _ _ _ _ _ _ _ _
   | exact ih1 _ _ _ _ _ _ _ _ _ _ _ _ _ _ _ _
   | exact ferrulelaw04_awake.mono _
   | exact ferrulelaw04_short.mono _ _ _ _ _ _
   | exact prec_Compare.mono _ _ _ _ _ _ _ _ _ _ _
   | exact prec_Full.mono _ _ _ _ _ _ _ _ _ _ _
   | exact LeO.none _
   | refine LeO.ite ?_ ?_
   | refine LeO.bind ?_ (fun _ => ?_)
set_option maxHeartbeats 8000000 in
set_option maxRecDepth 100000 in
theorem ferrulelaw04_PrecOrders.calls (k : Nat) (a0_0 : Int) (a0_1 : Int) (a0_2 : Int) (A0_3 : Option Addr) (c0_3 : Nat) (l0_3 : List ByteArray) (A0_4 : Option Addr) (c0_4 : Nat) (l0_4 : List ByteArray) (a1_0 : Int) (a1_1 : Int) (a1_2 : Int) (A1_3 : Option Addr) (c1_3 : Nat) (l1_3 : List ByteArray) (A1_4 : Option Addr) (c1_4 : Nat) (l1_4 : List ByteArray) (a2_0 : Int) (a2_1 : Int) (a2_2 : Int) (A2_3 : Option Addr) (c2_3 : Nat) (l2_3 : List ByteArray) (A2_4 : Option Addr) (c2_4 : Nat) (l2_4 : List ByteArray) (r : Bool) (w : World) (hr0_3 : Kd.C Kd.string w A0_3 l0_3.length l0_3) (hc0_3 : l0_3.length ≤ c0_3) (hr0_4 : Kd.C Kd.string w A0_4 l0_4.length l0_4) (hc0_4 : l0_4.length ≤ c0_4) (hr1_3 : Kd.C Kd.string w A1_3 l1_3.length l1_3) (hc1_3 : l1_3.length ≤ c1_3) (hr1_4 : Kd.C Kd.string w A1_4 l1_4.length l1_4) (hc1_4 : l1_4.length ≤ c1_4) (hr2_3 : Kd.C Kd.string w A2_3 l2_3.length l2_3) (hc2_3 : l2_3.length ≤ c2_3) (hr2_4 : Kd.C Kd.string w A2_4 l2_4.length l2_4) (hc2_4 : l2_4.length ≤ c2_4) (h : ferrulelaw04_PrecOrders.f k a0_0 a0_1 a0_2 l0_3 l0_4 a1_0 a1_1 a1_2 l1_3 l1_4 a2_0 a2_1 a2_2 l2_3 l2_4 = some r) :
  Calls Tryd.prog 9 #[.agg #[.int .u64 a0_0, .int .u64 a0_1, .int .u64 a0_2, .slice A0_3 l0_3.length c0_3, .slice A0_4 l0_4.length c0_4], .agg #[.int .u64 a1_0, .int .u64 a1_1, .int .u64 a1_2, .slice A1_3 l1_3.length c1_3, .slice A1_4 l1_4.length c1_4], .agg #[.int .u64 a2_0, .int .u64 a2_1, .int .u64 a2_2, .slice A2_3 l2_3.length c2_3, .slice A2_4 l2_4.length c2_4]] w fun e w' => e = .returned (.bool r) ∧ Below w.heap.size w w' := by
 have hu40 := Tryd.underlying40
 have HR0_3 := Aside0.mk hr0_3
 have HC0_3 := Aside0.mk hc0_3
 clear hr0_3 hc0_3
 have HR0_4 := Aside0.mk hr0_4
 have HC0_4 := Aside0.mk hc0_4
 clear hr0_4 hc0_4
 have HR1_3 := Aside0.mk hr1_3
 have HC1_3 := Aside0.mk hc1_3
 clear hr1_3 hc1_3
 have HR1_4 := Aside0.mk hr1_4
 have HC1_4 := Aside0.mk hc1_4
 clear hr1_4 hc1_4
 have HR2_3 := Aside0.mk hr2_3
 have HC2_3 := Aside0.mk hc2_3
 clear hr2_3 hc2_3
 have HR2_4 := Aside0.mk hr2_4
 have HC2_4 := Aside0.mk hc2_4
 clear hr2_4 hc2_4
 have HB := Aside0.mk (Below.refl w.heap.size w)
 have H : ((ferrulelaw04_awake.f k).bind fun t104 => (if t104 = true then ((ferrulelaw04_short.f k a0_0 a0_1 a0_2 l0_3 l0_4).bind fun t105 => (if t105 = true then ((ferrulelaw04_short.f k a1_0 a1_1 a1_2 l1_3 l1_4).bind fun t106 => (if t106 = true then ((ferrulelaw04_short.f k a2_0 a2_1 a2_2 l2_3 l2_4).bind fun t107 => (ferrulelaw04_PrecOrders.j0 k (!t107) a0_0 a0_1 a0_2 l0_3 l0_4 a1_0 a1_1 a1_2 l1_3 l1_4 a2_0 a2_1 a2_2 l2_3 l2_4)) else (ferrulelaw04_PrecOrders.j0 k true a0_0 a0_1 a0_2 l0_3 l0_4 a1_0 a1_1 a1_2 l1_3 l1_4 a2_0 a2_1 a2_2 l2_3 l2_4))) else (ferrulelaw04_PrecOrders.j0 k true a0_0 a0_1 a0_2 l0_3 l0_4 a1_0 a1_1 a1_2 l1_3 l1_4 a2_0 a2_1 a2_2 l2_3 l2_4))) else (some false))) = some r := h
 clear h
 replace H := Option.bind_eq_some_iff.mp H
 obtain ⟨t104, A40, H⟩ := H
 replace H : (if t104 = true then ((ferrulelaw04_short.f k a0_0 a0_1 a0_2 l0_3 l0_4).bind fun t105 => (if t105 = true then ((ferrulelaw04_short.f k a1_0 a1_1 a1_2 l1_3 l1_4).bind fun t106 => (if t106 = true then ((ferrulelaw04_short.f k a2_0 a2_1 a2_2 l2_3 l2_4).bind fun t107 => (ferrulelaw04_PrecOrders.j0 k (!t107) a0_0 a0_1 a0_2 l0_3 l0_4 a1_0 a1_1 a1_2 l1_3 l1_4 a2_0 a2_1 a2_2 l2_3 l2_4)) else (ferrulelaw04_PrecOrders.j0 k true a0_0 a0_1 a0_2 l0_3 l0_4 a1_0 a1_1 a1_2 l1_3 l1_4 a2_0 a2_1 a2_2 l2_3 l2_4))) else (ferrulelaw04_PrecOrders.j0 k true a0_0 a0_1 a0_2 l0_3 l0_4 a1_0 a1_1 a1_2 l1_3 l1_4 a2_0 a2_1 a2_2 l2_3 l2_4))) else (some false)) = some r := H
 have A4 := Aside0.mk A40
 clear A40
 by_cases c5 : t104 = true
 ·subst c5
  have H1 : ((ferrulelaw04_short.f k a0_0 a0_1 a0_2 l0_3 l0_4).bind fun t105 => (if t105 = true then ((ferrulelaw04_short.f k a1_0 a1_1 a1_2 l1_3 l1_4).bind fun t106 => (if t106 = true then ((ferrulelaw04_short.f k a2_0 a2_1 a2_2 l2_3 l2_4).bind fun t107 => (ferrulelaw04_PrecOrders.j0 k (!t107) a0_0 a0_1 a0_2 l0_3 l0_4 a1_0 a1_1 a1_2 l1_3 l1_4 a2_0 a2_1 a2_2 l2_3 l2_4)) else (ferrulelaw04_PrecOrders.j0 k true a0_0 a0_1 a0_2 l0_3 l0_4 a1_0 a1_1 a1_2 l1_3 l1_4 a2_0 a2_1 a2_2 l2_3 l2_4))) else (ferrulelaw04_PrecOrders.j0 k true a0_0 a0_1 a0_2 l0_3 l0_4 a1_0 a1_1 a1_2 l1_3 l1_4 a2_0 a2_1 a2_2 l2_3 l2_4))) = some r := by rw [if_pos rfl] at H; exact H
  clear H
  have H := H1
  clear H1
  have HC6 := Aside0.mk H
  clear H
  go_enter Tryd.func9, Tryd.ntmps9
  go_upto_region 3 with (first | ((with_reducible refine gate_dst (N := 3) rfl ?_); refine box_event ?hg (N := 3) ?hd (cs := #[.int .u64 a0_0, .int .u64 a0_1, .int .u64 a0_2, .slice A0_3 l0_3.length c0_3, .slice A0_4 l0_4.length c0_4]) (t := 40) ?hr ?_; (case hd => rfl); (case hg => rfl); (case hr => first | (go_simp; done) | (go_simp; rfl)); intro gb101 hg w7 hbox hb; have BK101 := Aside0.mk hbox; have GW101 := Aside0.mk ((by rw [hg]; exact (below_size bB) : w.heap.size ≤ gb101)); have GE101 := Aside0.mk ((by rw [hg]; exact (below_size bB) : w.heap.size ≤ gb101)); replace HB := aB HB hb; clear hb hbox hg) | ((with_reducible refine gate_dst (N := 4) rfl ?_); refine box_event ?hg (N := 4) ?hd (cs := #[.int .u64 a1_0, .int .u64 a1_1, .int .u64 a1_2, .slice A1_3 l1_3.length c1_3, .slice A1_4 l1_4.length c1_4]) (t := 40) ?hr ?_; (case hd => rfl); (case hg => rfl); (case hr => first | (go_simp; done) | (go_simp; rfl)); intro gb102 hg w8 hbox hb; have BK102 := Aside0.mk hbox; have GW102 := Aside0.mk ((by rw [hg]; exact (below_size bB) : w.heap.size ≤ gb102)); have GE102 := Aside0.mk ((by rw [hg]; exact (below_size bB) : w.heap.size ≤ gb102)); replace HB := aB HB hb; have NB101_102 := Aside0.mk ((by rw [hg]; exact Nat.ne_of_lt (blk_lt (g := gb101) (o := .cells #[.int .u64 a0_0, .int .u64 a0_1, .int .u64 a0_2, .slice A0_3 l0_3.length c0_3, .slice A0_4 l0_4.length c0_4] 40 (0, 0)) (aKw BK101)) : gb101 ≠ gb102)); have NB102_101 := Aside0.mk ((by rw [hg]; exact Nat.ne_of_gt (blk_lt (g := gb101) (o := .cells #[.int .u64 a0_0, .int .u64 a0_1, .int .u64 a0_2, .slice A0_3 l0_3.length c0_3, .slice A0_4 l0_4.length c0_4] 40 (0, 0)) (aKw BK101)) : gb102 ≠ gb101)); replace BK101 := aK BK101 hb; clear hb hbox hg) | ((with_reducible refine gate_dst (N := 5) rfl ?_); refine box_event ?hg (N := 5) ?hd (cs := #[.int .u64 a2_0, .int .u64 a2_1, .int .u64 a2_2, .slice A2_3 l2_3.length c2_3, .slice A2_4 l2_4.length c2_4]) (t := 40) ?hr ?_; (case hd => rfl); (case hg => rfl); (case hr => first | (go_simp; done) | (go_simp; rfl)); intro gb103 hg w9 hbox hb; have BK103 := Aside0.mk hbox; have GW103 := Aside0.mk ((by rw [hg]; exact (below_size bB) : w.heap.size ≤ gb103)); have GE103 := Aside0.mk ((by rw [hg]; exact (below_size bB) : w.heap.size ≤ gb103)); replace HB := aB HB hb; have NB101_103 := Aside0.mk ((by rw [hg]; exact Nat.ne_of_lt (blk_lt (g := gb101) (o := .cells #[.int .u64 a0_0, .int .u64 a0_1, .int .u64 a0_2, .slice A0_3 l0_3.length c0_3, .slice A0_4 l0_4.length c0_4] 40 (0, 0)) (aKw BK101)) : gb101 ≠ gb103)); have NB103_101 := Aside0.mk ((by rw [hg]; exact Nat.ne_of_gt (blk_lt (g := gb101) (o := .cells #[.int .u64 a0_0, .int .u64 a0_1, .int .u64 a0_2, .slice A0_3 l0_3.length c0_3, .slice A0_4 l0_4.length c0_4] 40 (0, 0)) (aKw BK101)) : gb103 ≠ gb101)); replace BK101 := aK BK101 hb; have NB102_103 := Aside0.mk ((by rw [hg]; exact Nat.ne_of_lt (blk_lt (g := gb102) (o := .cells #[.int .u64 a1_0, .int .u64 a1_1, .int .u64 a1_2, .slice A1_3 l1_3.length c1_3, .slice A1_4 l1_4.length c1_4] 40 (0, 0)) (aKw BK102)) : gb102 ≠ gb103)); have NB103_102 := Aside0.mk ((by rw [hg]; exact Nat.ne_of_gt (blk_lt (g := gb102) (o := .cells #[.int .u64 a1_0, .int .u64 a1_1, .int .u64 a1_2, .slice A1_3 l1_3.length c1_3, .slice A1_4 l1_4.length c1_4] 40 (0, 0)) (aKw BK102)) : gb103 ≠ gb102)); replace BK102 := aK BK102 hb; clear hb hbox hg) | ((with_reducible refine gate_callee (f := 21) rfl ?_); refine goesL_ (some 7) rfl rfl Tryd.func21 (by kernel_rfl) rfl #[] rfl bM ?_; (with_reducible refine (ferrulelaw04_awake.calls k  true _ A4.out).mono ?_); rintro e w10 ⟨rfl, hb⟩; refine ⟨_, rfl, ?_⟩; replace BK101 := aK BK101 hb; replace BK102 := aK BK102 hb; replace BK103 := aK BK103 hb; replace HB := aB HB hb; (try clear hb); (try clear hb2); (try clear hk); (try clear hi)))
  (try simp only [Act.put, List.setIfInBounds_toArray, List.set_cons_zero, List.set_cons_succ])
  go_cut [21] (fun v21 wc => ∃ (kq : Nat) (x21_5 : Bool), v21 = .bool x21_5 ∧ Aside0 (ferrulelaw04_PrecOrders.j0 kq x21_5 a0_0 a0_1 a0_2 l0_3 l0_4 a1_0 a1_1 a1_2 l1_3 l1_4 a2_0 a2_1 a2_2 l2_3 l2_4 = some r) ∧ Aside0 (kq ≤ k) ∧ Aside0 (wc.heap[gb101]? = some (.cells #[.int .u64 a0_0, .int .u64 a0_1, .int .u64 a0_2, (.slice A0_3 l0_3.length c0_3), (.slice A0_4 l0_4.length c0_4)] 40 (0, 0))) ∧ Aside0 (wc.heap[gb102]? = some (.cells #[.int .u64 a1_0, .int .u64 a1_1, .int .u64 a1_2, (.slice A1_3 l1_3.length c1_3), (.slice A1_4 l1_4.length c1_4)] 40 (0, 0))) ∧ Aside0 (wc.heap[gb103]? = some (.cells #[.int .u64 a2_0, .int .u64 a2_1, .int .u64 a2_2, (.slice A2_3 l2_3.length c2_3), (.slice A2_4 l2_4.length c2_4)] 40 (0, 0))) ∧ Aside0 (Below w.heap.size w wc))
  case first =>
   have H := HC6.out
   clear HC6
   replace H := Option.bind_eq_some_iff.mp H
   obtain ⟨t105, A110, H⟩ := H
   replace H : (if t105 = true then ((ferrulelaw04_short.f k a1_0 a1_1 a1_2 l1_3 l1_4).bind fun t106 => (if t106 = true then ((ferrulelaw04_short.f k a2_0 a2_1 a2_2 l2_3 l2_4).bind fun t107 => (ferrulelaw04_PrecOrders.j0 k (!t107) a0_0 a0_1 a0_2 l0_3 l0_4 a1_0 a1_1 a1_2 l1_3 l1_4 a2_0 a2_1 a2_2 l2_3 l2_4)) else (ferrulelaw04_PrecOrders.j0 k true a0_0 a0_1 a0_2 l0_3 l0_4 a1_0 a1_1 a1_2 l1_3 l1_4 a2_0 a2_1 a2_2 l2_3 l2_4))) else (ferrulelaw04_PrecOrders.j0 k true a0_0 a0_1 a0_2 l0_3 l0_4 a1_0 a1_1 a1_2 l1_3 l1_4 a2_0 a2_1 a2_2 l2_3 l2_4)) = some r := H
   have A11 := Aside0.mk A110
   clear A110
   by_cases c12 : t105 = true
   ·subst c12
    have H1 : ((ferrulelaw04_short.f k a1_0 a1_1 a1_2 l1_3 l1_4).bind fun t106 => (if t106 = true then ((ferrulelaw04_short.f k a2_0 a2_1 a2_2 l2_3 l2_4).bind fun t107 => (ferrulelaw04_PrecOrders.j0 k (!t107) a0_0 a0_1 a0_2 l0_3 l0_4 a1_0 a1_1 a1_2 l1_3 l1_4 a2_0 a2_1 a2_2 l2_3 l2_4)) else (ferrulelaw04_PrecOrders.j0 k true a0_0 a0_1 a0_2 l0_3 l0_4 a1_0 a1_1 a1_2 l1_3 l1_4 a2_0 a2_1 a2_2 l2_3 l2_4))) = some r := by rw [if_pos rfl] at H; exact H
    clear H
    have H := H1
    clear H1
    replace H := Option.bind_eq_some_iff.mp H
    obtain ⟨t106, A130, H⟩ := H
    replace H : (if t106 = true then ((ferrulelaw04_short.f k a2_0 a2_1 a2_2 l2_3 l2_4).bind fun t107 => (ferrulelaw04_PrecOrders.j0 k (!t107) a0_0 a0_1 a0_2 l0_3 l0_4 a1_0 a1_1 a1_2 l1_3 l1_4 a2_0 a2_1 a2_2 l2_3 l2_4)) else (ferrulelaw04_PrecOrders.j0 k true a0_0 a0_1 a0_2 l0_3 l0_4 a1_0 a1_1 a1_2 l1_3 l1_4 a2_0 a2_1 a2_2 l2_3 l2_4)) = some r := H
    have A13 := Aside0.mk A130
    clear A130
    by_cases c14 : t106 = true
    ·subst c14
     have H1 : ((ferrulelaw04_short.f k a2_0 a2_1 a2_2 l2_3 l2_4).bind fun t107 => (ferrulelaw04_PrecOrders.j0 k (!t107) a0_0 a0_1 a0_2 l0_3 l0_4 a1_0 a1_1 a1_2 l1_3 l1_4 a2_0 a2_1 a2_2 l2_3 l2_4)) = some r := by rw [if_pos rfl] at H; exact H
     clear H
     have H := H1
     clear H1
     replace H := Option.bind_eq_some_iff.mp H
     obtain ⟨t107, A150, H⟩ := H
     replace H : (ferrulelaw04_PrecOrders.j0 k (!t107) a0_0 a0_1 a0_2 l0_3 l0_4 a1_0 a1_1 a1_2 l1_3 l1_4 a2_0 a2_1 a2_2 l2_3 l2_4) = some r := H
     have A15 := Aside0.mk A150
     clear A150
     have H' := Aside0.mk H
     clear H
     have hnb16 := NB101_102.out
     have hnc16 := NB102_101.out
     have hnb17 := NB101_103.out
     have hnc17 := NB103_101.out
     have hcz18_0 : w10.cell? ⟨gb101, 0, none⟩ = some (.int .u64 a0_0) := (blk_cell BK101.out 0).trans rfl
     have hcz18_1 : w10.cell? ⟨gb101, 1, none⟩ = some (.int .u64 a0_1) := (blk_cell BK101.out 1).trans rfl
     have hcz18_2 : w10.cell? ⟨gb101, 2, none⟩ = some (.int .u64 a0_2) := (blk_cell BK101.out 2).trans rfl
     have hcz18_3 : w10.cell? ⟨gb101, 3, none⟩ = some (.slice A0_3 l0_3.length c0_3) := (blk_cell BK101.out 3).trans rfl
     have hcz18_4 : w10.cell? ⟨gb101, 4, none⟩ = some (.slice A0_4 l0_4.length c0_4) := (blk_cell BK101.out 4).trans rfl
     have hfz18_0 := blk_frozen BK101.out 0
     have hfz18_1 := blk_frozen BK101.out 1
     have hfz18_2 := blk_frozen BK101.out 2
     have hfz18_3 := blk_frozen BK101.out 3
     have hfz18_4 := blk_frozen BK101.out 4
     go_wp2_with (first | ((with_reducible refine gate_callee (f := 22) rfl ?_); refine goesL_ (some 10) rfl rfl Tryd.func22 (by kernel_rfl) rfl #[.agg #[.int .u64 a0_0, .int .u64 a0_1, .int .u64 a0_2, .slice A0_3 l0_3.length c0_3, .slice A0_4 l0_4.length c0_4]] rfl bM ?_; (with_reducible refine (ferrulelaw04_short.calls k a0_0 a0_1 a0_2 _ _ l0_3 _ _ l0_4 true _ ?side1 ?side2 ?side3 ?side4 A11.out).mono ?_); (case side1 => exact sW (Kd.C_below HR0_3.out HB.out)); (case side2 => exact HC0_3.out); (case side3 => exact sW (Kd.C_below HR0_4.out HB.out)); (case side4 => exact HC0_4.out); rintro e w19 ⟨rfl, hb⟩; refine ⟨_, rfl, ?_⟩; replace BK101 := aK BK101 hb; replace BK102 := aK BK102 hb; replace BK103 := aK BK103 hb; replace HB := aB HB hb; (try clear hb); (try clear hb2); (try clear hk); (try clear hi); have hnb20 := NB102_103.out; have hnc20 := NB103_102.out; have hcz21_0 : w19.cell? ⟨gb102, 0, none⟩ = some (.int .u64 a1_0) := (blk_cell BK102.out 0).trans rfl; have hcz21_1 : w19.cell? ⟨gb102, 1, none⟩ = some (.int .u64 a1_1) := (blk_cell BK102.out 1).trans rfl; have hcz21_2 : w19.cell? ⟨gb102, 2, none⟩ = some (.int .u64 a1_2) := (blk_cell BK102.out 2).trans rfl; have hcz21_3 : w19.cell? ⟨gb102, 3, none⟩ = some (.slice A1_3 l1_3.length c1_3) := (blk_cell BK102.out 3).trans rfl; have hcz21_4 : w19.cell? ⟨gb102, 4, none⟩ = some (.slice A1_4 l1_4.length c1_4) := (blk_cell BK102.out 4).trans rfl; have hfz21_0 := blk_frozen BK102.out 0; have hfz21_1 := blk_frozen BK102.out 1; have hfz21_2 := blk_frozen BK102.out 2; have hfz21_3 := blk_frozen BK102.out 3; have hfz21_4 := blk_frozen BK102.out 4) | (go_at_call 22; (with_reducible refine (ferrulelaw04_short.calls k a1_0 a1_1 a1_2 _ _ l1_3 _ _ l1_4 true _ ?side1 ?side2 ?side3 ?side4 A13.out).mono ?_); (case side1 => exact sW (Kd.C_below HR1_3.out HB.out)); (case side2 => exact HC1_3.out); (case side3 => exact sW (Kd.C_below HR1_4.out HB.out)); (case side4 => exact HC1_4.out); rintro e w22 ⟨rfl, hb⟩; replace BK101 := aK BK101 hb; replace BK102 := aK BK102 hb; replace BK103 := aK BK103 hb; replace HB := aB HB hb; (try clear hb); (try clear hb2); (try clear hk); (try clear hi); have hcz23_0 : w22.cell? ⟨gb103, 0, none⟩ = some (.int .u64 a2_0) := (blk_cell BK103.out 0).trans rfl; have hcz23_1 : w22.cell? ⟨gb103, 1, none⟩ = some (.int .u64 a2_1) := (blk_cell BK103.out 1).trans rfl; have hcz23_2 : w22.cell? ⟨gb103, 2, none⟩ = some (.int .u64 a2_2) := (blk_cell BK103.out 2).trans rfl; have hcz23_3 : w22.cell? ⟨gb103, 3, none⟩ = some (.slice A2_3 l2_3.length c2_3) := (blk_cell BK103.out 3).trans rfl; have hcz23_4 : w22.cell? ⟨gb103, 4, none⟩ = some (.slice A2_4 l2_4.length c2_4) := (blk_cell BK103.out 4).trans rfl; have hfz23_0 := blk_frozen BK103.out 0; have hfz23_1 := blk_frozen BK103.out 1; have hfz23_2 := blk_frozen BK103.out 2; have hfz23_3 := blk_frozen BK103.out 3; have hfz23_4 := blk_frozen BK103.out 4) | (go_at_call 22; (with_reducible refine (ferrulelaw04_short.calls k a2_0 a2_1 a2_2 _ _ l2_3 _ _ l2_4 t107 _ ?side1 ?side2 ?side3 ?side4 A15.out).mono ?_); (case side1 => exact sW (Kd.C_below HR2_3.out HB.out)); (case side2 => exact HC2_3.out); (case side3 => exact sW (Kd.C_below HR2_4.out HB.out)); (case side4 => exact HC2_4.out); rintro e w24 ⟨rfl, hb⟩; replace BK101 := aK BK101 hb; replace BK102 := aK BK102 hb; replace BK103 := aK BK103 hb; replace HB := aB HB hb; (try clear hb); (try clear hb2); (try clear hk); (try clear hi)))
     go_meet
     case rel => exact ⟨_, (!t107), bS, H', ⟨by first | omega | exact Nat.le_refl _⟩, ⟨aKw BK101⟩, ⟨aKw BK102⟩, ⟨aKw BK103⟩, ⟨bB⟩⟩
    ·replace c14 := Bool.eq_false_iff.mpr c14
     subst c14
     have H1 : (ferrulelaw04_PrecOrders.j0 k true a0_0 a0_1 a0_2 l0_3 l0_4 a1_0 a1_1 a1_2 l1_3 l1_4 a2_0 a2_1 a2_2 l2_3 l2_4) = some r := by rw [if_neg (show ¬ (false = true) by decide)] at H; exact H
     clear H
     have H := H1
     clear H1
     have H' := Aside0.mk H
     clear H
     have hnb25 := NB101_102.out
     have hnc25 := NB102_101.out
     have hnb26 := NB101_103.out
     have hnc26 := NB103_101.out
     have hcz27_0 : w10.cell? ⟨gb101, 0, none⟩ = some (.int .u64 a0_0) := (blk_cell BK101.out 0).trans rfl
     have hcz27_1 : w10.cell? ⟨gb101, 1, none⟩ = some (.int .u64 a0_1) := (blk_cell BK101.out 1).trans rfl
     have hcz27_2 : w10.cell? ⟨gb101, 2, none⟩ = some (.int .u64 a0_2) := (blk_cell BK101.out 2).trans rfl
     have hcz27_3 : w10.cell? ⟨gb101, 3, none⟩ = some (.slice A0_3 l0_3.length c0_3) := (blk_cell BK101.out 3).trans rfl
     have hcz27_4 : w10.cell? ⟨gb101, 4, none⟩ = some (.slice A0_4 l0_4.length c0_4) := (blk_cell BK101.out 4).trans rfl
     have hfz27_0 := blk_frozen BK101.out 0
     have hfz27_1 := blk_frozen BK101.out 1
     have hfz27_2 := blk_frozen BK101.out 2
     have hfz27_3 := blk_frozen BK101.out 3
     have hfz27_4 := blk_frozen BK101.out 4
     go_wp2_with (first | ((with_reducible refine gate_callee (f := 22) rfl ?_); refine goesL_ (some 10) rfl rfl Tryd.func22 (by kernel_rfl) rfl #[.agg #[.int .u64 a0_0, .int .u64 a0_1, .int .u64 a0_2, .slice A0_3 l0_3.length c0_3, .slice A0_4 l0_4.length c0_4]] rfl bM ?_; (with_reducible refine (ferrulelaw04_short.calls k a0_0 a0_1 a0_2 _ _ l0_3 _ _ l0_4 true _ ?side1 ?side2 ?side3 ?side4 A11.out).mono ?_); (case side1 => exact sW (Kd.C_below HR0_3.out HB.out)); (case side2 => exact HC0_3.out); (case side3 => exact sW (Kd.C_below HR0_4.out HB.out)); (case side4 => exact HC0_4.out); rintro e w28 ⟨rfl, hb⟩; refine ⟨_, rfl, ?_⟩; replace BK101 := aK BK101 hb; replace BK102 := aK BK102 hb; replace BK103 := aK BK103 hb; replace HB := aB HB hb; (try clear hb); (try clear hb2); (try clear hk); (try clear hi); have hnb29 := NB102_103.out; have hnc29 := NB103_102.out; have hcz30_0 : w28.cell? ⟨gb102, 0, none⟩ = some (.int .u64 a1_0) := (blk_cell BK102.out 0).trans rfl; have hcz30_1 : w28.cell? ⟨gb102, 1, none⟩ = some (.int .u64 a1_1) := (blk_cell BK102.out 1).trans rfl; have hcz30_2 : w28.cell? ⟨gb102, 2, none⟩ = some (.int .u64 a1_2) := (blk_cell BK102.out 2).trans rfl; have hcz30_3 : w28.cell? ⟨gb102, 3, none⟩ = some (.slice A1_3 l1_3.length c1_3) := (blk_cell BK102.out 3).trans rfl; have hcz30_4 : w28.cell? ⟨gb102, 4, none⟩ = some (.slice A1_4 l1_4.length c1_4) := (blk_cell BK102.out 4).trans rfl; have hfz30_0 := blk_frozen BK102.out 0; have hfz30_1 := blk_frozen BK102.out 1; have hfz30_2 := blk_frozen BK102.out 2; have hfz30_3 := blk_frozen BK102.out 3; have hfz30_4 := blk_frozen BK102.out 4) | (go_at_call 22; (with_reducible refine (ferrulelaw04_short.calls k a1_0 a1_1 a1_2 _ _ l1_3 _ _ l1_4 false _ ?side1 ?side2 ?side3 ?side4 A13.out).mono ?_); (case side1 => exact sW (Kd.C_below HR1_3.out HB.out)); (case side2 => exact HC1_3.out); (case side3 => exact sW (Kd.C_below HR1_4.out HB.out)); (case side4 => exact HC1_4.out); rintro e w31 ⟨rfl, hb⟩; replace BK101 := aK BK101 hb; replace BK102 := aK BK102 hb; replace BK103 := aK BK103 hb; replace HB := aB HB hb; (try clear hb); (try clear hb2); (try clear hk); (try clear hi)))
     go_meet
     case rel => exact ⟨_, (true), bS, H', ⟨by first | omega | exact Nat.le_refl _⟩, ⟨aKw BK101⟩, ⟨aKw BK102⟩, ⟨aKw BK103⟩, ⟨bB⟩⟩
   ·replace c12 := Bool.eq_false_iff.mpr c12
    subst c12
    have H1 : (ferrulelaw04_PrecOrders.j0 k true a0_0 a0_1 a0_2 l0_3 l0_4 a1_0 a1_1 a1_2 l1_3 l1_4 a2_0 a2_1 a2_2 l2_3 l2_4) = some r := by rw [if_neg (show ¬ (false = true) by decide)] at H; exact H
    clear H
    have H := H1
    clear H1
    have H' := Aside0.mk H
    clear H
    have hnb32 := NB101_102.out
    have hnc32 := NB102_101.out
    have hnb33 := NB101_103.out
    have hnc33 := NB103_101.out
    have hcz34_0 : w10.cell? ⟨gb101, 0, none⟩ = some (.int .u64 a0_0) := (blk_cell BK101.out 0).trans rfl
    have hcz34_1 : w10.cell? ⟨gb101, 1, none⟩ = some (.int .u64 a0_1) := (blk_cell BK101.out 1).trans rfl
    have hcz34_2 : w10.cell? ⟨gb101, 2, none⟩ = some (.int .u64 a0_2) := (blk_cell BK101.out 2).trans rfl
    have hcz34_3 : w10.cell? ⟨gb101, 3, none⟩ = some (.slice A0_3 l0_3.length c0_3) := (blk_cell BK101.out 3).trans rfl
    have hcz34_4 : w10.cell? ⟨gb101, 4, none⟩ = some (.slice A0_4 l0_4.length c0_4) := (blk_cell BK101.out 4).trans rfl
    have hfz34_0 := blk_frozen BK101.out 0
    have hfz34_1 := blk_frozen BK101.out 1
    have hfz34_2 := blk_frozen BK101.out 2
    have hfz34_3 := blk_frozen BK101.out 3
    have hfz34_4 := blk_frozen BK101.out 4
    go_wp2_with (first | ((with_reducible refine gate_callee (f := 22) rfl ?_); refine goesL_ (some 10) rfl rfl Tryd.func22 (by kernel_rfl) rfl #[.agg #[.int .u64 a0_0, .int .u64 a0_1, .int .u64 a0_2, .slice A0_3 l0_3.length c0_3, .slice A0_4 l0_4.length c0_4]] rfl bM ?_; (with_reducible refine (ferrulelaw04_short.calls k a0_0 a0_1 a0_2 _ _ l0_3 _ _ l0_4 false _ ?side1 ?side2 ?side3 ?side4 A11.out).mono ?_); (case side1 => exact sW (Kd.C_below HR0_3.out HB.out)); (case side2 => exact HC0_3.out); (case side3 => exact sW (Kd.C_below HR0_4.out HB.out)); (case side4 => exact HC0_4.out); rintro e w35 ⟨rfl, hb⟩; refine ⟨_, rfl, ?_⟩; replace BK101 := aK BK101 hb; replace BK102 := aK BK102 hb; replace BK103 := aK BK103 hb; replace HB := aB HB hb; (try clear hb); (try clear hb2); (try clear hk); (try clear hi)))
    go_meet
    case rel => exact ⟨_, (true), bS, H', ⟨by first | omega | exact Nat.le_refl _⟩, ⟨aKw BK101⟩, ⟨aKw BK102⟩, ⟨aKw BK103⟩, ⟨bB⟩⟩
  case rest =>
   clear HC6
   try clear c1
   try clear c2
   try clear p2
   try clear c3
   try clear c5
   try clear p6
   try clear c9
   try clear c12
   try clear c14
   try clear c16
   try clear c17
   try clear c20
   try clear c21
   try clear c22
   try clear c25
   try clear c26
   try clear c29
   try clear c32
   try clear c33
   try clear hcz18_0
   try clear hcz18_1
   try clear hcz18_2
   try clear hcz18_3
   try clear hcz18_4
   try clear hcz21_0
   try clear hcz21_1
   try clear hcz21_2
   try clear hcz21_3
   try clear hcz21_4
   try clear hcz23_0
   try clear hcz23_1
   try clear hcz23_2
   try clear hcz23_3
   try clear hcz23_4
   try clear hcz27_0
   try clear hcz27_1
   try clear hcz27_2
   try clear hcz27_3
   try clear hcz27_4
   try clear hcz30_0
   try clear hcz30_1
   try clear hcz30_2
   try clear hcz30_3
   try clear hcz30_4
   try clear hcz34_0
   try clear hcz34_1
   try clear hcz34_2
   try clear hcz34_3
   try clear hcz34_4
   try clear hfz18_0
   try clear hfz18_1
   try clear hfz18_2
   try clear hfz18_3
   try clear hfz18_4
   try clear hfz21_0
   try clear hfz21_1
   try clear hfz21_2
   try clear hfz21_3
   try clear hfz21_4
   try clear hfz23_0
   try clear hfz23_1
   try clear hfz23_2
   try clear hfz23_3
   try clear hfz23_4
   try clear hfz27_0
   try clear hfz27_1
   try clear hfz27_2
   try clear hfz27_3
   try clear hfz27_4
   try clear hfz30_0
   try clear hfz30_1
   try clear hfz30_2
   try clear hfz30_3
   try clear hfz30_4
   try clear hfz34_0
   try clear hfz34_1
   try clear hfz34_2
   try clear hfz34_3
   try clear hfz34_4
   obtain ⟨kq, x21_5, rfl, HA, HJ5, BK101, BK102, BK103, HB⟩ := hcut
   cases kq with
   | zero => exact absurd HA.out (by simp [ferrulelaw04_PrecOrders.j0])
   | succ kj5 =>
    have H := HA.out
    clear HA
    simp only [ferrulelaw04_PrecOrders.j0] at H
    by_cases c36 : x21_5 = true
    ·subst c36
     have H1 : (some true) = some r := by rw [if_pos rfl] at H; exact H
     clear H
     have H := H1
     clear H1
     obtain rfl := Option.some.inj H
     go_wp2
     go_ret
     exact ⟨by first | rfl | (simp [errW_none, errW_some] <;> rfl) | (simp [*, errW_none, errW_some] <;> rfl), bB⟩
    ·replace c36 := Bool.eq_false_iff.mpr c36
     subst c36
     have H1 : ((prec_Compare.f kj5 a0_0 a0_1 a0_2 l0_3 l0_4 a1_0 a1_1 a1_2 l1_3 l1_4).bind fun t108 => (if t108 ≤ 0 then ((prec_Compare.f kj5 a1_0 a1_1 a1_2 l1_3 l1_4 a2_0 a2_1 a2_2 l2_3 l2_4).bind fun t109 => (if t109 ≤ 0 then ((prec_Compare.f kj5 a0_0 a0_1 a0_2 l0_3 l0_4 a2_0 a2_1 a2_2 l2_3 l2_4).bind fun t110 => (ferrulelaw04_PrecOrders.j1 kj5 (decide (t110 > 0)) a0_0 a0_1 a0_2 l0_3 l0_4 a1_0 a1_1 a1_2 l1_3 l1_4 a2_0 a2_1 a2_2 l2_3 l2_4)) else (ferrulelaw04_PrecOrders.j1 kj5 false a0_0 a0_1 a0_2 l0_3 l0_4 a1_0 a1_1 a1_2 l1_3 l1_4 a2_0 a2_1 a2_2 l2_3 l2_4))) else (ferrulelaw04_PrecOrders.j1 kj5 false a0_0 a0_1 a0_2 l0_3 l0_4 a1_0 a1_1 a1_2 l1_3 l1_4 a2_0 a2_1 a2_2 l2_3 l2_4))) = some r := by rw [if_neg (show ¬ (false = true) by decide)] at H; exact H
     clear H
     have H := H1
     clear H1
     have HC37 := Aside0.mk H
     clear H
     go_upto_region 5 with (fail)
     go_cut [37] (fun v37 wc => ∃ (kq : Nat) (x37_36 : Bool), v37 = .bool x37_36 ∧ Aside0 (ferrulelaw04_PrecOrders.j1 kq x37_36 a0_0 a0_1 a0_2 l0_3 l0_4 a1_0 a1_1 a1_2 l1_3 l1_4 a2_0 a2_1 a2_2 l2_3 l2_4 = some r) ∧ Aside0 (kq ≤ kj5) ∧ Aside0 (wc.heap[gb101]? = some (.cells #[.int .u64 a0_0, .int .u64 a0_1, .int .u64 a0_2, (.slice A0_3 l0_3.length c0_3), (.slice A0_4 l0_4.length c0_4)] 40 (0, 0))) ∧ Aside0 (wc.heap[gb102]? = some (.cells #[.int .u64 a1_0, .int .u64 a1_1, .int .u64 a1_2, (.slice A1_3 l1_3.length c1_3), (.slice A1_4 l1_4.length c1_4)] 40 (0, 0))) ∧ Aside0 (wc.heap[gb103]? = some (.cells #[.int .u64 a2_0, .int .u64 a2_1, .int .u64 a2_2, (.slice A2_3 l2_3.length c2_3), (.slice A2_4 l2_4.length c2_4)] 40 (0, 0))) ∧ Aside0 (Below w.heap.size w wc))
     case first =>
      have H := HC37.out
      clear HC37
      replace H := Option.bind_eq_some_iff.mp H
      obtain ⟨t108, A380, H⟩ := H
      replace H : (if t108 ≤ 0 then ((prec_Compare.f kj5 a1_0 a1_1 a1_2 l1_3 l1_4 a2_0 a2_1 a2_2 l2_3 l2_4).bind fun t109 => (if t109 ≤ 0 then ((prec_Compare.f kj5 a0_0 a0_1 a0_2 l0_3 l0_4 a2_0 a2_1 a2_2 l2_3 l2_4).bind fun t110 => (ferrulelaw04_PrecOrders.j1 kj5 (decide (t110 > 0)) a0_0 a0_1 a0_2 l0_3 l0_4 a1_0 a1_1 a1_2 l1_3 l1_4 a2_0 a2_1 a2_2 l2_3 l2_4)) else (ferrulelaw04_PrecOrders.j1 kj5 false a0_0 a0_1 a0_2 l0_3 l0_4 a1_0 a1_1 a1_2 l1_3 l1_4 a2_0 a2_1 a2_2 l2_3 l2_4))) else (ferrulelaw04_PrecOrders.j1 kj5 false a0_0 a0_1 a0_2 l0_3 l0_4 a1_0 a1_1 a1_2 l1_3 l1_4 a2_0 a2_1 a2_2 l2_3 l2_4)) = some r := H
      have A38 := Aside0.mk A380
      clear A380
      by_cases c39 : t108 ≤ 0
      ·rw [if_pos c39] at H
       have c39b0 : decide (t108 ≤ 0) = true := decide_eq_true c39
       clear c39
       (first | rw [c39b0] | (simp only [i64_w, i32_w]; rw [c39b0]) | skip)
       replace H := Option.bind_eq_some_iff.mp H
       obtain ⟨t109, A400, H⟩ := H
       replace H : (if t109 ≤ 0 then ((prec_Compare.f kj5 a0_0 a0_1 a0_2 l0_3 l0_4 a2_0 a2_1 a2_2 l2_3 l2_4).bind fun t110 => (ferrulelaw04_PrecOrders.j1 kj5 (decide (t110 > 0)) a0_0 a0_1 a0_2 l0_3 l0_4 a1_0 a1_1 a1_2 l1_3 l1_4 a2_0 a2_1 a2_2 l2_3 l2_4)) else (ferrulelaw04_PrecOrders.j1 kj5 false a0_0 a0_1 a0_2 l0_3 l0_4 a1_0 a1_1 a1_2 l1_3 l1_4 a2_0 a2_1 a2_2 l2_3 l2_4)) = some r := H
       have A40 := Aside0.mk A400
       clear A400
       by_cases c41 : t109 ≤ 0
       ·rw [if_pos c41] at H
        have c41b0 : decide (t109 ≤ 0) = true := decide_eq_true c41
        clear c41
        replace H := Option.bind_eq_some_iff.mp H
        obtain ⟨t110, A420, H⟩ := H
        replace H : (ferrulelaw04_PrecOrders.j1 kj5 (decide (t110 > 0)) a0_0 a0_1 a0_2 l0_3 l0_4 a1_0 a1_1 a1_2 l1_3 l1_4 a2_0 a2_1 a2_2 l2_3 l2_4) = some r := H
        have A42 := Aside0.mk A420
        clear A420
        have H' := Aside0.mk H
        clear H
        have hnb43 := NB101_102.out
        have hnc43 := NB102_101.out
        have hnb44 := NB101_103.out
        have hnc44 := NB103_101.out
        have hcz45_0 : wc.cell? ⟨gb101, 0, none⟩ = some (.int .u64 a0_0) := (blk_cell BK101.out 0).trans rfl
        have hcz45_1 : wc.cell? ⟨gb101, 1, none⟩ = some (.int .u64 a0_1) := (blk_cell BK101.out 1).trans rfl
        have hcz45_2 : wc.cell? ⟨gb101, 2, none⟩ = some (.int .u64 a0_2) := (blk_cell BK101.out 2).trans rfl
        have hcz45_3 : wc.cell? ⟨gb101, 3, none⟩ = some (.slice A0_3 l0_3.length c0_3) := (blk_cell BK101.out 3).trans rfl
        have hcz45_4 : wc.cell? ⟨gb101, 4, none⟩ = some (.slice A0_4 l0_4.length c0_4) := (blk_cell BK101.out 4).trans rfl
        have hfz45_0 := blk_frozen BK101.out 0
        have hfz45_1 := blk_frozen BK101.out 1
        have hfz45_2 := blk_frozen BK101.out 2
        have hfz45_3 := blk_frozen BK101.out 3
        have hfz45_4 := blk_frozen BK101.out 4
        have hnb46 := NB102_103.out
        have hnc46 := NB103_102.out
        have hcz47_0 : wc.cell? ⟨gb102, 0, none⟩ = some (.int .u64 a1_0) := (blk_cell BK102.out 0).trans rfl
        have hcz47_1 : wc.cell? ⟨gb102, 1, none⟩ = some (.int .u64 a1_1) := (blk_cell BK102.out 1).trans rfl
        have hcz47_2 : wc.cell? ⟨gb102, 2, none⟩ = some (.int .u64 a1_2) := (blk_cell BK102.out 2).trans rfl
        have hcz47_3 : wc.cell? ⟨gb102, 3, none⟩ = some (.slice A1_3 l1_3.length c1_3) := (blk_cell BK102.out 3).trans rfl
        have hcz47_4 : wc.cell? ⟨gb102, 4, none⟩ = some (.slice A1_4 l1_4.length c1_4) := (blk_cell BK102.out 4).trans rfl
        have hfz47_0 := blk_frozen BK102.out 0
        have hfz47_1 := blk_frozen BK102.out 1
        have hfz47_2 := blk_frozen BK102.out 2
        have hfz47_3 := blk_frozen BK102.out 3
        have hfz47_4 := blk_frozen BK102.out 4
        go_wp2_with (first | ((with_reducible refine gate_callee (f := 31) rfl ?_); refine goesL_ (some 24) rfl rfl Tryd.func31 (by kernel_rfl) rfl #[.agg #[.int .u64 a0_0, .int .u64 a0_1, .int .u64 a0_2, .slice A0_3 l0_3.length c0_3, .slice A0_4 l0_4.length c0_4], .agg #[.int .u64 a1_0, .int .u64 a1_1, .int .u64 a1_2, .slice A1_3 l1_3.length c1_3, .slice A1_4 l1_4.length c1_4]] rfl bM ?_; (with_reducible refine (prec_Compare.calls kj5 a0_0 a0_1 a0_2 _ _ l0_3 _ _ l0_4 a1_0 a1_1 a1_2 _ _ l1_3 _ _ l1_4 t108 _ ?side1 ?side2 ?side3 ?side4 ?side5 ?side6 ?side7 ?side8 A38.out).mono ?_); (case side1 => exact sW (Kd.C_below HR0_3.out HB.out)); (case side2 => exact HC0_3.out); (case side3 => exact sW (Kd.C_below HR0_4.out HB.out)); (case side4 => exact HC0_4.out); (case side5 => exact sW (Kd.C_below HR1_3.out HB.out)); (case side6 => exact HC1_3.out); (case side7 => exact sW (Kd.C_below HR1_4.out HB.out)); (case side8 => exact HC1_4.out); rintro e w48 ⟨rfl, hb⟩; refine ⟨_, rfl, ?_⟩; replace BK101 := aK BK101 hb; replace BK102 := aK BK102 hb; replace BK103 := aK BK103 hb; replace HB := aB HB hb; (try clear hb); (try clear hb2); (try clear hk); (try clear hi); have hcz49_0 : w48.cell? ⟨gb102, 0, none⟩ = some (.int .u64 a1_0) := (blk_cell BK102.out 0).trans rfl; have hcz49_1 : w48.cell? ⟨gb102, 1, none⟩ = some (.int .u64 a1_1) := (blk_cell BK102.out 1).trans rfl; have hcz49_2 : w48.cell? ⟨gb102, 2, none⟩ = some (.int .u64 a1_2) := (blk_cell BK102.out 2).trans rfl; have hcz49_3 : w48.cell? ⟨gb102, 3, none⟩ = some (.slice A1_3 l1_3.length c1_3) := (blk_cell BK102.out 3).trans rfl; have hcz49_4 : w48.cell? ⟨gb102, 4, none⟩ = some (.slice A1_4 l1_4.length c1_4) := (blk_cell BK102.out 4).trans rfl; have hfz49_0 := blk_frozen BK102.out 0; have hfz49_1 := blk_frozen BK102.out 1; have hfz49_2 := blk_frozen BK102.out 2; have hfz49_3 := blk_frozen BK102.out 3; have hfz49_4 := blk_frozen BK102.out 4; have hcz50_0 : w48.cell? ⟨gb103, 0, none⟩ = some (.int .u64 a2_0) := (blk_cell BK103.out 0).trans rfl; have hcz50_1 : w48.cell? ⟨gb103, 1, none⟩ = some (.int .u64 a2_1) := (blk_cell BK103.out 1).trans rfl; have hcz50_2 : w48.cell? ⟨gb103, 2, none⟩ = some (.int .u64 a2_2) := (blk_cell BK103.out 2).trans rfl; have hcz50_3 : w48.cell? ⟨gb103, 3, none⟩ = some (.slice A2_3 l2_3.length c2_3) := (blk_cell BK103.out 3).trans rfl; have hcz50_4 : w48.cell? ⟨gb103, 4, none⟩ = some (.slice A2_4 l2_4.length c2_4) := (blk_cell BK103.out 4).trans rfl; have hfz50_0 := blk_frozen BK103.out 0; have hfz50_1 := blk_frozen BK103.out 1; have hfz50_2 := blk_frozen BK103.out 2; have hfz50_3 := blk_frozen BK103.out 3; have hfz50_4 := blk_frozen BK103.out 4) | (go_at_call 31; (with_reducible refine (prec_Compare.calls kj5 a1_0 a1_1 a1_2 _ _ l1_3 _ _ l1_4 a2_0 a2_1 a2_2 _ _ l2_3 _ _ l2_4 t109 _ ?side1 ?side2 ?side3 ?side4 ?side5 ?side6 ?side7 ?side8 A40.out).mono ?_); (case side1 => exact sW (Kd.C_below HR1_3.out HB.out)); (case side2 => exact HC1_3.out); (case side3 => exact sW (Kd.C_below HR1_4.out HB.out)); (case side4 => exact HC1_4.out); (case side5 => exact sW (Kd.C_below HR2_3.out HB.out)); (case side6 => exact HC2_3.out); (case side7 => exact sW (Kd.C_below HR2_4.out HB.out)); (case side8 => exact HC2_4.out); rintro e w51 ⟨rfl, hb⟩; replace BK101 := aK BK101 hb; replace BK102 := aK BK102 hb; replace BK103 := aK BK103 hb; replace HB := aB HB hb; (try clear hb); (try clear hb2); (try clear hk); (try clear hi); have hcz52_0 : w51.cell? ⟨gb101, 0, none⟩ = some (.int .u64 a0_0) := (blk_cell BK101.out 0).trans rfl; have hcz52_1 : w51.cell? ⟨gb101, 1, none⟩ = some (.int .u64 a0_1) := (blk_cell BK101.out 1).trans rfl; have hcz52_2 : w51.cell? ⟨gb101, 2, none⟩ = some (.int .u64 a0_2) := (blk_cell BK101.out 2).trans rfl; have hcz52_3 : w51.cell? ⟨gb101, 3, none⟩ = some (.slice A0_3 l0_3.length c0_3) := (blk_cell BK101.out 3).trans rfl; have hcz52_4 : w51.cell? ⟨gb101, 4, none⟩ = some (.slice A0_4 l0_4.length c0_4) := (blk_cell BK101.out 4).trans rfl; have hfz52_0 := blk_frozen BK101.out 0; have hfz52_1 := blk_frozen BK101.out 1; have hfz52_2 := blk_frozen BK101.out 2; have hfz52_3 := blk_frozen BK101.out 3; have hfz52_4 := blk_frozen BK101.out 4; have hcz53_0 : w51.cell? ⟨gb103, 0, none⟩ = some (.int .u64 a2_0) := (blk_cell BK103.out 0).trans rfl; have hcz53_1 : w51.cell? ⟨gb103, 1, none⟩ = some (.int .u64 a2_1) := (blk_cell BK103.out 1).trans rfl; have hcz53_2 : w51.cell? ⟨gb103, 2, none⟩ = some (.int .u64 a2_2) := (blk_cell BK103.out 2).trans rfl; have hcz53_3 : w51.cell? ⟨gb103, 3, none⟩ = some (.slice A2_3 l2_3.length c2_3) := (blk_cell BK103.out 3).trans rfl; have hcz53_4 : w51.cell? ⟨gb103, 4, none⟩ = some (.slice A2_4 l2_4.length c2_4) := (blk_cell BK103.out 4).trans rfl; have hfz53_0 := blk_frozen BK103.out 0; have hfz53_1 := blk_frozen BK103.out 1; have hfz53_2 := blk_frozen BK103.out 2; have hfz53_3 := blk_frozen BK103.out 3; have hfz53_4 := blk_frozen BK103.out 4) | (go_at_call 31; (with_reducible refine (prec_Compare.calls kj5 a0_0 a0_1 a0_2 _ _ l0_3 _ _ l0_4 a2_0 a2_1 a2_2 _ _ l2_3 _ _ l2_4 t110 _ ?side1 ?side2 ?side3 ?side4 ?side5 ?side6 ?side7 ?side8 A42.out).mono ?_); (case side1 => exact sW (Kd.C_below HR0_3.out HB.out)); (case side2 => exact HC0_3.out); (case side3 => exact sW (Kd.C_below HR0_4.out HB.out)); (case side4 => exact HC0_4.out); (case side5 => exact sW (Kd.C_below HR2_3.out HB.out)); (case side6 => exact HC2_3.out); (case side7 => exact sW (Kd.C_below HR2_4.out HB.out)); (case side8 => exact HC2_4.out); rintro e w54 ⟨rfl, hb⟩; replace BK101 := aK BK101 hb; replace BK102 := aK BK102 hb; replace BK103 := aK BK103 hb; replace HB := aB HB hb; (try clear hb); (try clear hb2); (try clear hk); (try clear hi)))
        go_meet
        case rel => exact ⟨_, (decide (t110 > 0)), bS, H', ⟨by have := HJ5.out; first | omega | exact Nat.le_refl _⟩, ⟨aKw BK101⟩, ⟨aKw BK102⟩, ⟨aKw BK103⟩, ⟨bB⟩⟩
       ·rw [if_neg c41] at H
        have c41b0 : decide (t109 ≤ 0) = false := decide_eq_false c41
        clear c41
        have H' := Aside0.mk H
        clear H
        have hnb55 := NB101_102.out
        have hnc55 := NB102_101.out
        have hnb56 := NB101_103.out
        have hnc56 := NB103_101.out
        have hcz57_0 : wc.cell? ⟨gb101, 0, none⟩ = some (.int .u64 a0_0) := (blk_cell BK101.out 0).trans rfl
        have hcz57_1 : wc.cell? ⟨gb101, 1, none⟩ = some (.int .u64 a0_1) := (blk_cell BK101.out 1).trans rfl
        have hcz57_2 : wc.cell? ⟨gb101, 2, none⟩ = some (.int .u64 a0_2) := (blk_cell BK101.out 2).trans rfl
        have hcz57_3 : wc.cell? ⟨gb101, 3, none⟩ = some (.slice A0_3 l0_3.length c0_3) := (blk_cell BK101.out 3).trans rfl
        have hcz57_4 : wc.cell? ⟨gb101, 4, none⟩ = some (.slice A0_4 l0_4.length c0_4) := (blk_cell BK101.out 4).trans rfl
        have hfz57_0 := blk_frozen BK101.out 0
        have hfz57_1 := blk_frozen BK101.out 1
        have hfz57_2 := blk_frozen BK101.out 2
        have hfz57_3 := blk_frozen BK101.out 3
        have hfz57_4 := blk_frozen BK101.out 4
        have hnb58 := NB102_103.out
        have hnc58 := NB103_102.out
        have hcz59_0 : wc.cell? ⟨gb102, 0, none⟩ = some (.int .u64 a1_0) := (blk_cell BK102.out 0).trans rfl
        have hcz59_1 : wc.cell? ⟨gb102, 1, none⟩ = some (.int .u64 a1_1) := (blk_cell BK102.out 1).trans rfl
        have hcz59_2 : wc.cell? ⟨gb102, 2, none⟩ = some (.int .u64 a1_2) := (blk_cell BK102.out 2).trans rfl
        have hcz59_3 : wc.cell? ⟨gb102, 3, none⟩ = some (.slice A1_3 l1_3.length c1_3) := (blk_cell BK102.out 3).trans rfl
        have hcz59_4 : wc.cell? ⟨gb102, 4, none⟩ = some (.slice A1_4 l1_4.length c1_4) := (blk_cell BK102.out 4).trans rfl
        have hfz59_0 := blk_frozen BK102.out 0
        have hfz59_1 := blk_frozen BK102.out 1
        have hfz59_2 := blk_frozen BK102.out 2
        have hfz59_3 := blk_frozen BK102.out 3
        have hfz59_4 := blk_frozen BK102.out 4
        go_wp2_with (first | ((with_reducible refine gate_callee (f := 31) rfl ?_); refine goesL_ (some 24) rfl rfl Tryd.func31 (by kernel_rfl) rfl #[.agg #[.int .u64 a0_0, .int .u64 a0_1, .int .u64 a0_2, .slice A0_3 l0_3.length c0_3, .slice A0_4 l0_4.length c0_4], .agg #[.int .u64 a1_0, .int .u64 a1_1, .int .u64 a1_2, .slice A1_3 l1_3.length c1_3, .slice A1_4 l1_4.length c1_4]] rfl bM ?_; (with_reducible refine (prec_Compare.calls kj5 a0_0 a0_1 a0_2 _ _ l0_3 _ _ l0_4 a1_0 a1_1 a1_2 _ _ l1_3 _ _ l1_4 t108 _ ?side1 ?side2 ?side3 ?side4 ?side5 ?side6 ?side7 ?side8 A38.out).mono ?_); (case side1 => exact sW (Kd.C_below HR0_3.out HB.out)); (case side2 => exact HC0_3.out); (case side3 => exact sW (Kd.C_below HR0_4.out HB.out)); (case side4 => exact HC0_4.out); (case side5 => exact sW (Kd.C_below HR1_3.out HB.out)); (case side6 => exact HC1_3.out); (case side7 => exact sW (Kd.C_below HR1_4.out HB.out)); (case side8 => exact HC1_4.out); rintro e w60 ⟨rfl, hb⟩; refine ⟨_, rfl, ?_⟩; replace BK101 := aK BK101 hb; replace BK102 := aK BK102 hb; replace BK103 := aK BK103 hb; replace HB := aB HB hb; (try clear hb); (try clear hb2); (try clear hk); (try clear hi); have hcz61_0 : w60.cell? ⟨gb102, 0, none⟩ = some (.int .u64 a1_0) := (blk_cell BK102.out 0).trans rfl; have hcz61_1 : w60.cell? ⟨gb102, 1, none⟩ = some (.int .u64 a1_1) := (blk_cell BK102.out 1).trans rfl; have hcz61_2 : w60.cell? ⟨gb102, 2, none⟩ = some (.int .u64 a1_2) := (blk_cell BK102.out 2).trans rfl; have hcz61_3 : w60.cell? ⟨gb102, 3, none⟩ = some (.slice A1_3 l1_3.length c1_3) := (blk_cell BK102.out 3).trans rfl; have hcz61_4 : w60.cell? ⟨gb102, 4, none⟩ = some (.slice A1_4 l1_4.length c1_4) := (blk_cell BK102.out 4).trans rfl; have hfz61_0 := blk_frozen BK102.out 0; have hfz61_1 := blk_frozen BK102.out 1; have hfz61_2 := blk_frozen BK102.out 2; have hfz61_3 := blk_frozen BK102.out 3; have hfz61_4 := blk_frozen BK102.out 4; have hcz62_0 : w60.cell? ⟨gb103, 0, none⟩ = some (.int .u64 a2_0) := (blk_cell BK103.out 0).trans rfl; have hcz62_1 : w60.cell? ⟨gb103, 1, none⟩ = some (.int .u64 a2_1) := (blk_cell BK103.out 1).trans rfl; have hcz62_2 : w60.cell? ⟨gb103, 2, none⟩ = some (.int .u64 a2_2) := (blk_cell BK103.out 2).trans rfl; have hcz62_3 : w60.cell? ⟨gb103, 3, none⟩ = some (.slice A2_3 l2_3.length c2_3) := (blk_cell BK103.out 3).trans rfl; have hcz62_4 : w60.cell? ⟨gb103, 4, none⟩ = some (.slice A2_4 l2_4.length c2_4) := (blk_cell BK103.out 4).trans rfl; have hfz62_0 := blk_frozen BK103.out 0; have hfz62_1 := blk_frozen BK103.out 1; have hfz62_2 := blk_frozen BK103.out 2; have hfz62_3 := blk_frozen BK103.out 3; have hfz62_4 := blk_frozen BK103.out 4) | (go_at_call 31; (with_reducible refine (prec_Compare.calls kj5 a1_0 a1_1 a1_2 _ _ l1_3 _ _ l1_4 a2_0 a2_1 a2_2 _ _ l2_3 _ _ l2_4 t109 _ ?side1 ?side2 ?side3 ?side4 ?side5 ?side6 ?side7 ?side8 A40.out).mono ?_); (case side1 => exact sW (Kd.C_below HR1_3.out HB.out)); (case side2 => exact HC1_3.out); (case side3 => exact sW (Kd.C_below HR1_4.out HB.out)); (case side4 => exact HC1_4.out); (case side5 => exact sW (Kd.C_below HR2_3.out HB.out)); (case side6 => exact HC2_3.out); (case side7 => exact sW (Kd.C_below HR2_4.out HB.out)); (case side8 => exact HC2_4.out); rintro e w63 ⟨rfl, hb⟩; replace BK101 := aK BK101 hb; replace BK102 := aK BK102 hb; replace BK103 := aK BK103 hb; replace HB := aB HB hb; (try clear hb); (try clear hb2); (try clear hk); (try clear hi)))
        go_meet
        case rel => exact ⟨_, (false), bS, H', ⟨by have := HJ5.out; first | omega | exact Nat.le_refl _⟩, ⟨aKw BK101⟩, ⟨aKw BK102⟩, ⟨aKw BK103⟩, ⟨bB⟩⟩
      ·rw [if_neg c39] at H
       have c39b0 : decide (t108 ≤ 0) = false := decide_eq_false c39
       clear c39
       (first | rw [c39b0] | (simp only [i64_w, i32_w]; rw [c39b0]) | skip)
       have H' := Aside0.mk H
       clear H
       have hnb64 := NB101_102.out
       have hnc64 := NB102_101.out
       have hnb65 := NB101_103.out
       have hnc65 := NB103_101.out
       have hcz66_0 : wc.cell? ⟨gb101, 0, none⟩ = some (.int .u64 a0_0) := (blk_cell BK101.out 0).trans rfl
       have hcz66_1 : wc.cell? ⟨gb101, 1, none⟩ = some (.int .u64 a0_1) := (blk_cell BK101.out 1).trans rfl
       have hcz66_2 : wc.cell? ⟨gb101, 2, none⟩ = some (.int .u64 a0_2) := (blk_cell BK101.out 2).trans rfl
       have hcz66_3 : wc.cell? ⟨gb101, 3, none⟩ = some (.slice A0_3 l0_3.length c0_3) := (blk_cell BK101.out 3).trans rfl
       have hcz66_4 : wc.cell? ⟨gb101, 4, none⟩ = some (.slice A0_4 l0_4.length c0_4) := (blk_cell BK101.out 4).trans rfl
       have hfz66_0 := blk_frozen BK101.out 0
       have hfz66_1 := blk_frozen BK101.out 1
       have hfz66_2 := blk_frozen BK101.out 2
       have hfz66_3 := blk_frozen BK101.out 3
       have hfz66_4 := blk_frozen BK101.out 4
       have hnb67 := NB102_103.out
       have hnc67 := NB103_102.out
       have hcz68_0 : wc.cell? ⟨gb102, 0, none⟩ = some (.int .u64 a1_0) := (blk_cell BK102.out 0).trans rfl
       have hcz68_1 : wc.cell? ⟨gb102, 1, none⟩ = some (.int .u64 a1_1) := (blk_cell BK102.out 1).trans rfl
       have hcz68_2 : wc.cell? ⟨gb102, 2, none⟩ = some (.int .u64 a1_2) := (blk_cell BK102.out 2).trans rfl
       have hcz68_3 : wc.cell? ⟨gb102, 3, none⟩ = some (.slice A1_3 l1_3.length c1_3) := (blk_cell BK102.out 3).trans rfl
       have hcz68_4 : wc.cell? ⟨gb102, 4, none⟩ = some (.slice A1_4 l1_4.length c1_4) := (blk_cell BK102.out 4).trans rfl
       have hfz68_0 := blk_frozen BK102.out 0
       have hfz68_1 := blk_frozen BK102.out 1
       have hfz68_2 := blk_frozen BK102.out 2
       have hfz68_3 := blk_frozen BK102.out 3
       have hfz68_4 := blk_frozen BK102.out 4
       go_wp2_with (first | ((with_reducible refine gate_callee (f := 31) rfl ?_); refine goesL_ (some 24) rfl rfl Tryd.func31 (by kernel_rfl) rfl #[.agg #[.int .u64 a0_0, .int .u64 a0_1, .int .u64 a0_2, .slice A0_3 l0_3.length c0_3, .slice A0_4 l0_4.length c0_4], .agg #[.int .u64 a1_0, .int .u64 a1_1, .int .u64 a1_2, .slice A1_3 l1_3.length c1_3, .slice A1_4 l1_4.length c1_4]] rfl bM ?_; (with_reducible refine (prec_Compare.calls kj5 a0_0 a0_1 a0_2 _ _ l0_3 _ _ l0_4 a1_0 a1_1 a1_2 _ _ l1_3 _ _ l1_4 t108 _ ?side1 ?side2 ?side3 ?side4 ?side5 ?side6 ?side7 ?side8 A38.out).mono ?_); (case side1 => exact sW (Kd.C_below HR0_3.out HB.out)); (case side2 => exact HC0_3.out); (case side3 => exact sW (Kd.C_below HR0_4.out HB.out)); (case side4 => exact HC0_4.out); (case side5 => exact sW (Kd.C_below HR1_3.out HB.out)); (case side6 => exact HC1_3.out); (case side7 => exact sW (Kd.C_below HR1_4.out HB.out)); (case side8 => exact HC1_4.out); rintro e w69 ⟨rfl, hb⟩; refine ⟨_, rfl, ?_⟩; replace BK101 := aK BK101 hb; replace BK102 := aK BK102 hb; replace BK103 := aK BK103 hb; replace HB := aB HB hb; (try clear hb); (try clear hb2); (try clear hk); (try clear hi)))
       go_meet
       case rel => exact ⟨_, (false), bS, H', ⟨by have := HJ5.out; first | omega | exact Nat.le_refl _⟩, ⟨aKw BK101⟩, ⟨aKw BK102⟩, ⟨aKw BK103⟩, ⟨bB⟩⟩
     case rest =>
      clear HC37
      try clear c1
      try clear c2
      try clear p2
      try clear c3
      try clear c4
      try clear c5
      try clear c6
      try clear p6
      try clear c9
      try clear c12
      try clear c14
      try clear c16
      try clear c17
      try clear c20
      try clear c21
      try clear c22
      try clear c25
      try clear c26
      try clear c29
      try clear c31
      try clear c32
      try clear c33
      try clear c36
      try clear c39
      try clear c39b0
      try clear c41
      try clear c41b0
      try clear c43
      try clear c44
      try clear c46
      try clear c55
      try clear c56
      try clear c58
      try clear c64
      try clear p64
      try clear c65
      try clear c67
      try clear hcz18_0
      try clear hcz18_1
      try clear hcz18_2
      try clear hcz18_3
      try clear hcz18_4
      try clear hcz21_0
      try clear hcz21_1
      try clear hcz21_2
      try clear hcz21_3
      try clear hcz21_4
      try clear hcz23_0
      try clear hcz23_1
      try clear hcz23_2
      try clear hcz23_3
      try clear hcz23_4
      try clear hcz27_0
      try clear hcz27_1
      try clear hcz27_2
      try clear hcz27_3
      try clear hcz27_4
      try clear hcz30_0
      try clear hcz30_1
      try clear hcz30_2
      try clear hcz30_3
      try clear hcz30_4
      try clear hcz34_0
      try clear hcz34_1
      try clear hcz34_2
      try clear hcz34_3
      try clear hcz34_4
      try clear hcz45_0
      try clear hcz45_1
      try clear hcz45_2
      try clear hcz45_3
      try clear hcz45_4
      try clear hcz47_0
      try clear hcz47_1
      try clear hcz47_2
      try clear hcz47_3
      try clear hcz47_4
      try clear hcz49_0
      try clear hcz49_1
      try clear hcz49_2
      try clear hcz49_3
      try clear hcz49_4
      try clear hcz50_0
      try clear hcz50_1
      try clear hcz50_2
      try clear hcz50_3
      try clear hcz50_4
      try clear hcz52_0
      try clear hcz52_1
      try clear hcz52_2
      try clear hcz52_3
      try clear hcz52_4
      try clear hcz53_0
      try clear hcz53_1
      try clear hcz53_2
      try clear hcz53_3
      try clear hcz53_4
      try clear hcz57_0
      try clear hcz57_1
      try clear hcz57_2
      try clear hcz57_3
      try clear hcz57_4
      try clear hcz59_0
      try clear hcz59_1
      try clear hcz59_2
      try clear hcz59_3
      try clear hcz59_4
      try clear hcz61_0
      try clear hcz61_1
      try clear hcz61_2
      try clear hcz61_3
      try clear hcz61_4
      try clear hcz62_0
      try clear hcz62_1
      try clear hcz62_2
      try clear hcz62_3
      try clear hcz62_4
      try clear hcz66_0
      try clear hcz66_1
      try clear hcz66_2
      try clear hcz66_3
      try clear hcz66_4
      try clear hcz68_0
      try clear hcz68_1
      try clear hcz68_2
      try clear hcz68_3
      try clear hcz68_4
      try clear hfz18_0
      try clear hfz18_1
      try clear hfz18_2
      try clear hfz18_3
      try clear hfz18_4
      try clear hfz21_0
      try clear hfz21_1
      try clear hfz21_2
      try clear hfz21_3
      try clear hfz21_4
      try clear hfz23_0
      try clear hfz23_1
      try clear hfz23_2
      try clear hfz23_3
      try clear hfz23_4
      try clear hfz27_0
      try clear hfz27_1
      try clear hfz27_2
      try clear hfz27_3
      try clear hfz27_4
      try clear hfz30_0
      try clear hfz30_1
      try clear hfz30_2
      try clear hfz30_3
      try clear hfz30_4
      try clear hfz34_0
      try clear hfz34_1
      try clear hfz34_2
      try clear hfz34_3
      try clear hfz34_4
      try clear hfz45_0
      try clear hfz45_1
      try clear hfz45_2
      try clear hfz45_3
      try clear hfz45_4
      try clear hfz47_0
      try clear hfz47_1
      try clear hfz47_2
      try clear hfz47_3
      try clear hfz47_4
      try clear hfz49_0
      try clear hfz49_1
      try clear hfz49_2
      try clear hfz49_3
      try clear hfz49_4
      try clear hfz50_0
      try clear hfz50_1
      try clear hfz50_2
      try clear hfz50_3
      try clear hfz50_4
      try clear hfz52_0
      try clear hfz52_1
      try clear hfz52_2
      try clear hfz52_3
      try clear hfz52_4
      try clear hfz53_0
      try clear hfz53_1
      try clear hfz53_2
      try clear hfz53_3
      try clear hfz53_4
      try clear hfz57_0
      try clear hfz57_1
      try clear hfz57_2
      try clear hfz57_3
      try clear hfz57_4
      try clear hfz59_0
      try clear hfz59_1
      try clear hfz59_2
      try clear hfz59_3
      try clear hfz59_4
      try clear hfz61_0
      try clear hfz61_1
      try clear hfz61_2
      try clear hfz61_3
      try clear hfz61_4
      try clear hfz62_0
      try clear hfz62_1
      try clear hfz62_2
      try clear hfz62_3
      try clear hfz62_4
      try clear hfz66_0
      try clear hfz66_1
      try clear hfz66_2
      try clear hfz66_3
      try clear hfz66_4
      try clear hfz68_0
      try clear hfz68_1
      try clear hfz68_2
      try clear hfz68_3
      try clear hfz68_4
      try clear p2
      try clear p6
      obtain ⟨kq, x37_36, rfl, HA, HJ36, BK101, BK102, BK103, HB⟩ := hcut
      cases kq with
      | zero => exact absurd HA.out (by simp [ferrulelaw04_PrecOrders.j1])
      | succ kj36 =>
       have H := HA.out
       clear HA
       simp only [ferrulelaw04_PrecOrders.j1] at H
       by_cases c70 : x37_36 = true
       ·subst c70
        have H1 : (some false) = some r := by rw [if_pos rfl] at H; exact H
        clear H
        have H := H1
        clear H1
        obtain rfl := Option.some.inj H
        go_wp2
        go_ret
        exact ⟨by first | rfl | (simp [errW_none, errW_some] <;> rfl) | (simp [*, errW_none, errW_some] <;> rfl), bB⟩
       ·replace c70 := Bool.eq_false_iff.mpr c70
        subst c70
        have H1 : ((prec_Full.f kj36 a0_0 a0_1 a0_2 l0_3 l0_4 a1_0 a1_1 a1_2 l1_3 l1_4).bind fun t111 => (if t111 ≤ 0 then ((prec_Full.f kj36 a1_0 a1_1 a1_2 l1_3 l1_4 a2_0 a2_1 a2_2 l2_3 l2_4).bind fun t112 => (if t112 ≤ 0 then ((prec_Full.f kj36 a0_0 a0_1 a0_2 l0_3 l0_4 a2_0 a2_1 a2_2 l2_3 l2_4).bind fun t113 => (some (decide (t113 ≤ 0)))) else (some true))) else (some true))) = some r := by rw [if_neg (show ¬ (false = true) by decide)] at H; exact H
        clear H
        have H := H1
        clear H1
        replace H := Option.bind_eq_some_iff.mp H
        obtain ⟨t111, A710, H⟩ := H
        replace H : (if t111 ≤ 0 then ((prec_Full.f kj36 a1_0 a1_1 a1_2 l1_3 l1_4 a2_0 a2_1 a2_2 l2_3 l2_4).bind fun t112 => (if t112 ≤ 0 then ((prec_Full.f kj36 a0_0 a0_1 a0_2 l0_3 l0_4 a2_0 a2_1 a2_2 l2_3 l2_4).bind fun t113 => (some (decide (t113 ≤ 0)))) else (some true))) else (some true)) = some r := H
        have A71 := Aside0.mk A710
        clear A710
        by_cases c72 : t111 ≤ 0
        ·rw [if_pos c72] at H
         have c72b0 : decide (t111 ≤ 0) = true := decide_eq_true c72
         clear c72
         replace H := Option.bind_eq_some_iff.mp H
         obtain ⟨t112, A730, H⟩ := H
         replace H : (if t112 ≤ 0 then ((prec_Full.f kj36 a0_0 a0_1 a0_2 l0_3 l0_4 a2_0 a2_1 a2_2 l2_3 l2_4).bind fun t113 => (some (decide (t113 ≤ 0)))) else (some true)) = some r := H
         have A73 := Aside0.mk A730
         clear A730
         by_cases c74 : t112 ≤ 0
         ·rw [if_pos c74] at H
          have c74b0 : decide (t112 ≤ 0) = true := decide_eq_true c74
          clear c74
          replace H := Option.bind_eq_some_iff.mp H
          obtain ⟨t113, A750, H⟩ := H
          replace H : (some (decide (t113 ≤ 0))) = some r := H
          have A75 := Aside0.mk A750
          clear A750
          obtain rfl := Option.some.inj H
          have hnb76 := NB101_102.out
          have hnc76 := NB102_101.out
          have hnb77 := NB101_103.out
          have hnc77 := NB103_101.out
          have hcz78_0 : wc.cell? ⟨gb101, 0, none⟩ = some (.int .u64 a0_0) := (blk_cell BK101.out 0).trans rfl
          have hcz78_1 : wc.cell? ⟨gb101, 1, none⟩ = some (.int .u64 a0_1) := (blk_cell BK101.out 1).trans rfl
          have hcz78_2 : wc.cell? ⟨gb101, 2, none⟩ = some (.int .u64 a0_2) := (blk_cell BK101.out 2).trans rfl
          have hcz78_3 : wc.cell? ⟨gb101, 3, none⟩ = some (.slice A0_3 l0_3.length c0_3) := (blk_cell BK101.out 3).trans rfl
          have hcz78_4 : wc.cell? ⟨gb101, 4, none⟩ = some (.slice A0_4 l0_4.length c0_4) := (blk_cell BK101.out 4).trans rfl
          have hfz78_0 := blk_frozen BK101.out 0
          have hfz78_1 := blk_frozen BK101.out 1
          have hfz78_2 := blk_frozen BK101.out 2
          have hfz78_3 := blk_frozen BK101.out 3
          have hfz78_4 := blk_frozen BK101.out 4
          have hnb79 := NB102_103.out
          have hnc79 := NB103_102.out
          have hcz80_0 : wc.cell? ⟨gb102, 0, none⟩ = some (.int .u64 a1_0) := (blk_cell BK102.out 0).trans rfl
          have hcz80_1 : wc.cell? ⟨gb102, 1, none⟩ = some (.int .u64 a1_1) := (blk_cell BK102.out 1).trans rfl
          have hcz80_2 : wc.cell? ⟨gb102, 2, none⟩ = some (.int .u64 a1_2) := (blk_cell BK102.out 2).trans rfl
          have hcz80_3 : wc.cell? ⟨gb102, 3, none⟩ = some (.slice A1_3 l1_3.length c1_3) := (blk_cell BK102.out 3).trans rfl
          have hcz80_4 : wc.cell? ⟨gb102, 4, none⟩ = some (.slice A1_4 l1_4.length c1_4) := (blk_cell BK102.out 4).trans rfl
          have hfz80_0 := blk_frozen BK102.out 0
          have hfz80_1 := blk_frozen BK102.out 1
          have hfz80_2 := blk_frozen BK102.out 2
          have hfz80_3 := blk_frozen BK102.out 3
          have hfz80_4 := blk_frozen BK102.out 4
          go_wp2_with (first | ((with_reducible refine gate_callee (f := 38) rfl ?_); refine goesL_ (some 40) rfl rfl Tryd.func38 (by kernel_rfl) rfl #[.agg #[.int .u64 a0_0, .int .u64 a0_1, .int .u64 a0_2, .slice A0_3 l0_3.length c0_3, .slice A0_4 l0_4.length c0_4], .agg #[.int .u64 a1_0, .int .u64 a1_1, .int .u64 a1_2, .slice A1_3 l1_3.length c1_3, .slice A1_4 l1_4.length c1_4]] rfl bM ?_; (with_reducible refine (prec_Full.calls kj36 a0_0 a0_1 a0_2 _ _ l0_3 _ _ l0_4 a1_0 a1_1 a1_2 _ _ l1_3 _ _ l1_4 t111 _ ?side1 ?side2 ?side3 ?side4 ?side5 ?side6 ?side7 ?side8 A71.out).mono ?_); (case side1 => exact sW (Kd.C_below HR0_3.out HB.out)); (case side2 => exact HC0_3.out); (case side3 => exact sW (Kd.C_below HR0_4.out HB.out)); (case side4 => exact HC0_4.out); (case side5 => exact sW (Kd.C_below HR1_3.out HB.out)); (case side6 => exact HC1_3.out); (case side7 => exact sW (Kd.C_below HR1_4.out HB.out)); (case side8 => exact HC1_4.out); rintro e w81 ⟨rfl, hb⟩; refine ⟨_, rfl, ?_⟩; replace BK101 := aK BK101 hb; replace BK102 := aK BK102 hb; replace BK103 := aK BK103 hb; replace HB := aB HB hb; (try clear hb); (try clear hb2); (try clear hk); (try clear hi); have hcz82_0 : w81.cell? ⟨gb102, 0, none⟩ = some (.int .u64 a1_0) := (blk_cell BK102.out 0).trans rfl; have hcz82_1 : w81.cell? ⟨gb102, 1, none⟩ = some (.int .u64 a1_1) := (blk_cell BK102.out 1).trans rfl; have hcz82_2 : w81.cell? ⟨gb102, 2, none⟩ = some (.int .u64 a1_2) := (blk_cell BK102.out 2).trans rfl; have hcz82_3 : w81.cell? ⟨gb102, 3, none⟩ = some (.slice A1_3 l1_3.length c1_3) := (blk_cell BK102.out 3).trans rfl; have hcz82_4 : w81.cell? ⟨gb102, 4, none⟩ = some (.slice A1_4 l1_4.length c1_4) := (blk_cell BK102.out 4).trans rfl; have hfz82_0 := blk_frozen BK102.out 0; have hfz82_1 := blk_frozen BK102.out 1; have hfz82_2 := blk_frozen BK102.out 2; have hfz82_3 := blk_frozen BK102.out 3; have hfz82_4 := blk_frozen BK102.out 4; have hcz83_0 : w81.cell? ⟨gb103, 0, none⟩ = some (.int .u64 a2_0) := (blk_cell BK103.out 0).trans rfl; have hcz83_1 : w81.cell? ⟨gb103, 1, none⟩ = some (.int .u64 a2_1) := (blk_cell BK103.out 1).trans rfl; have hcz83_2 : w81.cell? ⟨gb103, 2, none⟩ = some (.int .u64 a2_2) := (blk_cell BK103.out 2).trans rfl; have hcz83_3 : w81.cell? ⟨gb103, 3, none⟩ = some (.slice A2_3 l2_3.length c2_3) := (blk_cell BK103.out 3).trans rfl; have hcz83_4 : w81.cell? ⟨gb103, 4, none⟩ = some (.slice A2_4 l2_4.length c2_4) := (blk_cell BK103.out 4).trans rfl; have hfz83_0 := blk_frozen BK103.out 0; have hfz83_1 := blk_frozen BK103.out 1; have hfz83_2 := blk_frozen BK103.out 2; have hfz83_3 := blk_frozen BK103.out 3; have hfz83_4 := blk_frozen BK103.out 4) | (go_at_call 38; (with_reducible refine (prec_Full.calls kj36 a1_0 a1_1 a1_2 _ _ l1_3 _ _ l1_4 a2_0 a2_1 a2_2 _ _ l2_3 _ _ l2_4 t112 _ ?side1 ?side2 ?side3 ?side4 ?side5 ?side6 ?side7 ?side8 A73.out).mono ?_); (case side1 => exact sW (Kd.C_below HR1_3.out HB.out)); (case side2 => exact HC1_3.out); (case side3 => exact sW (Kd.C_below HR1_4.out HB.out)); (case side4 => exact HC1_4.out); (case side5 => exact sW (Kd.C_below HR2_3.out HB.out)); (case side6 => exact HC2_3.out); (case side7 => exact sW (Kd.C_below HR2_4.out HB.out)); (case side8 => exact HC2_4.out); rintro e w84 ⟨rfl, hb⟩; replace BK101 := aK BK101 hb; replace BK102 := aK BK102 hb; replace BK103 := aK BK103 hb; replace HB := aB HB hb; (try clear hb); (try clear hb2); (try clear hk); (try clear hi); have hcz85_0 : w84.cell? ⟨gb101, 0, none⟩ = some (.int .u64 a0_0) := (blk_cell BK101.out 0).trans rfl; have hcz85_1 : w84.cell? ⟨gb101, 1, none⟩ = some (.int .u64 a0_1) := (blk_cell BK101.out 1).trans rfl; have hcz85_2 : w84.cell? ⟨gb101, 2, none⟩ = some (.int .u64 a0_2) := (blk_cell BK101.out 2).trans rfl; have hcz85_3 : w84.cell? ⟨gb101, 3, none⟩ = some (.slice A0_3 l0_3.length c0_3) := (blk_cell BK101.out 3).trans rfl; have hcz85_4 : w84.cell? ⟨gb101, 4, none⟩ = some (.slice A0_4 l0_4.length c0_4) := (blk_cell BK101.out 4).trans rfl; have hfz85_0 := blk_frozen BK101.out 0; have hfz85_1 := blk_frozen BK101.out 1; have hfz85_2 := blk_frozen BK101.out 2; have hfz85_3 := blk_frozen BK101.out 3; have hfz85_4 := blk_frozen BK101.out 4; have hcz86_0 : w84.cell? ⟨gb103, 0, none⟩ = some (.int .u64 a2_0) := (blk_cell BK103.out 0).trans rfl; have hcz86_1 : w84.cell? ⟨gb103, 1, none⟩ = some (.int .u64 a2_1) := (blk_cell BK103.out 1).trans rfl; have hcz86_2 : w84.cell? ⟨gb103, 2, none⟩ = some (.int .u64 a2_2) := (blk_cell BK103.out 2).trans rfl; have hcz86_3 : w84.cell? ⟨gb103, 3, none⟩ = some (.slice A2_3 l2_3.length c2_3) := (blk_cell BK103.out 3).trans rfl; have hcz86_4 : w84.cell? ⟨gb103, 4, none⟩ = some (.slice A2_4 l2_4.length c2_4) := (blk_cell BK103.out 4).trans rfl; have hfz86_0 := blk_frozen BK103.out 0; have hfz86_1 := blk_frozen BK103.out 1; have hfz86_2 := blk_frozen BK103.out 2; have hfz86_3 := blk_frozen BK103.out 3; have hfz86_4 := blk_frozen BK103.out 4) | (go_at_call 38; (with_reducible refine (prec_Full.calls kj36 a0_0 a0_1 a0_2 _ _ l0_3 _ _ l0_4 a2_0 a2_1 a2_2 _ _ l2_3 _ _ l2_4 t113 _ ?side1 ?side2 ?side3 ?side4 ?side5 ?side6 ?side7 ?side8 A75.out).mono ?_); (case side1 => exact sW (Kd.C_below HR0_3.out HB.out)); (case side2 => exact HC0_3.out); (case side3 => exact sW (Kd.C_below HR0_4.out HB.out)); (case side4 => exact HC0_4.out); (case side5 => exact sW (Kd.C_below HR2_3.out HB.out)); (case side6 => exact HC2_3.out); (case side7 => exact sW (Kd.C_below HR2_4.out HB.out)); (case side8 => exact HC2_4.out); rintro e w87 ⟨rfl, hb⟩; replace BK101 := aK BK101 hb; replace BK102 := aK BK102 hb; replace BK103 := aK BK103 hb; replace HB := aB HB hb; (try clear hb); (try clear hb2); (try clear hk); (try clear hi)))
          go_ret
          exact ⟨by first | rfl | (simp [errW_none, errW_some] <;> rfl) | (simp [*, errW_none, errW_some] <;> rfl), bB⟩
         ·rw [if_neg c74] at H
          have c74b0 : decide (t112 ≤ 0) = false := decide_eq_false c74
          clear c74
          obtain rfl := Option.some.inj H
          have hnb88 := NB101_102.out
          have hnc88 := NB102_101.out
          have hnb89 := NB101_103.out
          have hnc89 := NB103_101.out
          have hcz90_0 : wc.cell? ⟨gb101, 0, none⟩ = some (.int .u64 a0_0) := (blk_cell BK101.out 0).trans rfl
          have hcz90_1 : wc.cell? ⟨gb101, 1, none⟩ = some (.int .u64 a0_1) := (blk_cell BK101.out 1).trans rfl
          have hcz90_2 : wc.cell? ⟨gb101, 2, none⟩ = some (.int .u64 a0_2) := (blk_cell BK101.out 2).trans rfl
          have hcz90_3 : wc.cell? ⟨gb101, 3, none⟩ = some (.slice A0_3 l0_3.length c0_3) := (blk_cell BK101.out 3).trans rfl
          have hcz90_4 : wc.cell? ⟨gb101, 4, none⟩ = some (.slice A0_4 l0_4.length c0_4) := (blk_cell BK101.out 4).trans rfl
          have hfz90_0 := blk_frozen BK101.out 0
          have hfz90_1 := blk_frozen BK101.out 1
          have hfz90_2 := blk_frozen BK101.out 2
          have hfz90_3 := blk_frozen BK101.out 3
          have hfz90_4 := blk_frozen BK101.out 4
          have hnb91 := NB102_103.out
          have hnc91 := NB103_102.out
          have hcz92_0 : wc.cell? ⟨gb102, 0, none⟩ = some (.int .u64 a1_0) := (blk_cell BK102.out 0).trans rfl
          have hcz92_1 : wc.cell? ⟨gb102, 1, none⟩ = some (.int .u64 a1_1) := (blk_cell BK102.out 1).trans rfl
          have hcz92_2 : wc.cell? ⟨gb102, 2, none⟩ = some (.int .u64 a1_2) := (blk_cell BK102.out 2).trans rfl
          have hcz92_3 : wc.cell? ⟨gb102, 3, none⟩ = some (.slice A1_3 l1_3.length c1_3) := (blk_cell BK102.out 3).trans rfl
          have hcz92_4 : wc.cell? ⟨gb102, 4, none⟩ = some (.slice A1_4 l1_4.length c1_4) := (blk_cell BK102.out 4).trans rfl
          have hfz92_0 := blk_frozen BK102.out 0
          have hfz92_1 := blk_frozen BK102.out 1
          have hfz92_2 := blk_frozen BK102.out 2
          have hfz92_3 := blk_frozen BK102.out 3
          have hfz92_4 := blk_frozen BK102.out 4
          go_wp2_with (first | ((with_reducible refine gate_callee (f := 38) rfl ?_); refine goesL_ (some 40) rfl rfl Tryd.func38 (by kernel_rfl) rfl #[.agg #[.int .u64 a0_0, .int .u64 a0_1, .int .u64 a0_2, .slice A0_3 l0_3.length c0_3, .slice A0_4 l0_4.length c0_4], .agg #[.int .u64 a1_0, .int .u64 a1_1, .int .u64 a1_2, .slice A1_3 l1_3.length c1_3, .slice A1_4 l1_4.length c1_4]] rfl bM ?_; (with_reducible refine (prec_Full.calls kj36 a0_0 a0_1 a0_2 _ _ l0_3 _ _ l0_4 a1_0 a1_1 a1_2 _ _ l1_3 _ _ l1_4 t111 _ ?side1 ?side2 ?side3 ?side4 ?side5 ?side6 ?side7 ?side8 A71.out).mono ?_); (case side1 => exact sW (Kd.C_below HR0_3.out HB.out)); (case side2 => exact HC0_3.out); (case side3 => exact sW (Kd.C_below HR0_4.out HB.out)); (case side4 => exact HC0_4.out); (case side5 => exact sW (Kd.C_below HR1_3.out HB.out)); (case side6 => exact HC1_3.out); (case side7 => exact sW (Kd.C_below HR1_4.out HB.out)); (case side8 => exact HC1_4.out); rintro e w93 ⟨rfl, hb⟩; refine ⟨_, rfl, ?_⟩; replace BK101 := aK BK101 hb; replace BK102 := aK BK102 hb; replace BK103 := aK BK103 hb; replace HB := aB HB hb; (try clear hb); (try clear hb2); (try clear hk); (try clear hi); have hcz94_0 : w93.cell? ⟨gb102, 0, none⟩ = some (.int .u64 a1_0) := (blk_cell BK102.out 0).trans rfl; have hcz94_1 : w93.cell? ⟨gb102, 1, none⟩ = some (.int .u64 a1_1) := (blk_cell BK102.out 1).trans rfl; have hcz94_2 : w93.cell? ⟨gb102, 2, none⟩ = some (.int .u64 a1_2) := (blk_cell BK102.out 2).trans rfl; have hcz94_3 : w93.cell? ⟨gb102, 3, none⟩ = some (.slice A1_3 l1_3.length c1_3) := (blk_cell BK102.out 3).trans rfl; have hcz94_4 : w93.cell? ⟨gb102, 4, none⟩ = some (.slice A1_4 l1_4.length c1_4) := (blk_cell BK102.out 4).trans rfl; have hfz94_0 := blk_frozen BK102.out 0; have hfz94_1 := blk_frozen BK102.out 1; have hfz94_2 := blk_frozen BK102.out 2; have hfz94_3 := blk_frozen BK102.out 3; have hfz94_4 := blk_frozen BK102.out 4; have hcz95_0 : w93.cell? ⟨gb103, 0, none⟩ = some (.int .u64 a2_0) := (blk_cell BK103.out 0).trans rfl; have hcz95_1 : w93.cell? ⟨gb103, 1, none⟩ = some (.int .u64 a2_1) := (blk_cell BK103.out 1).trans rfl; have hcz95_2 : w93.cell? ⟨gb103, 2, none⟩ = some (.int .u64 a2_2) := (blk_cell BK103.out 2).trans rfl; have hcz95_3 : w93.cell? ⟨gb103, 3, none⟩ = some (.slice A2_3 l2_3.length c2_3) := (blk_cell BK103.out 3).trans rfl; have hcz95_4 : w93.cell? ⟨gb103, 4, none⟩ = some (.slice A2_4 l2_4.length c2_4) := (blk_cell BK103.out 4).trans rfl; have hfz95_0 := blk_frozen BK103.out 0; have hfz95_1 := blk_frozen BK103.out 1; have hfz95_2 := blk_frozen BK103.out 2; have hfz95_3 := blk_frozen BK103.out 3; have hfz95_4 := blk_frozen BK103.out 4) | (go_at_call 38; (with_reducible refine (prec_Full.calls kj36 a1_0 a1_1 a1_2 _ _ l1_3 _ _ l1_4 a2_0 a2_1 a2_2 _ _ l2_3 _ _ l2_4 t112 _ ?side1 ?side2 ?side3 ?side4 ?side5 ?side6 ?side7 ?side8 A73.out).mono ?_); (case side1 => exact sW (Kd.C_below HR1_3.out HB.out)); (case side2 => exact HC1_3.out); (case side3 => exact sW (Kd.C_below HR1_4.out HB.out)); (case side4 => exact HC1_4.out); (case side5 => exact sW (Kd.C_below HR2_3.out HB.out)); (case side6 => exact HC2_3.out); (case side7 => exact sW (Kd.C_below HR2_4.out HB.out)); (case side8 => exact HC2_4.out); rintro e w96 ⟨rfl, hb⟩; replace BK101 := aK BK101 hb; replace BK102 := aK BK102 hb; replace BK103 := aK BK103 hb; replace HB := aB HB hb; (try clear hb); (try clear hb2); (try clear hk); (try clear hi)))
          go_ret
          exact ⟨by first | rfl | (simp [errW_none, errW_some] <;> rfl) | (simp [*, errW_none, errW_some] <;> rfl), bB⟩
        ·rw [if_neg c72] at H
         have c72b0 : decide (t111 ≤ 0) = false := decide_eq_false c72
         clear c72
         obtain rfl := Option.some.inj H
         have hnb97 := NB101_102.out
         have hnc97 := NB102_101.out
         have hnb98 := NB101_103.out
         have hnc98 := NB103_101.out
         have hcz99_0 : wc.cell? ⟨gb101, 0, none⟩ = some (.int .u64 a0_0) := (blk_cell BK101.out 0).trans rfl
         have hcz99_1 : wc.cell? ⟨gb101, 1, none⟩ = some (.int .u64 a0_1) := (blk_cell BK101.out 1).trans rfl
         have hcz99_2 : wc.cell? ⟨gb101, 2, none⟩ = some (.int .u64 a0_2) := (blk_cell BK101.out 2).trans rfl
         have hcz99_3 : wc.cell? ⟨gb101, 3, none⟩ = some (.slice A0_3 l0_3.length c0_3) := (blk_cell BK101.out 3).trans rfl
         have hcz99_4 : wc.cell? ⟨gb101, 4, none⟩ = some (.slice A0_4 l0_4.length c0_4) := (blk_cell BK101.out 4).trans rfl
         have hfz99_0 := blk_frozen BK101.out 0
         have hfz99_1 := blk_frozen BK101.out 1
         have hfz99_2 := blk_frozen BK101.out 2
         have hfz99_3 := blk_frozen BK101.out 3
         have hfz99_4 := blk_frozen BK101.out 4
         have hnb100 := NB102_103.out
         have hnc100 := NB103_102.out
         have hcz101_0 : wc.cell? ⟨gb102, 0, none⟩ = some (.int .u64 a1_0) := (blk_cell BK102.out 0).trans rfl
         have hcz101_1 : wc.cell? ⟨gb102, 1, none⟩ = some (.int .u64 a1_1) := (blk_cell BK102.out 1).trans rfl
         have hcz101_2 : wc.cell? ⟨gb102, 2, none⟩ = some (.int .u64 a1_2) := (blk_cell BK102.out 2).trans rfl
         have hcz101_3 : wc.cell? ⟨gb102, 3, none⟩ = some (.slice A1_3 l1_3.length c1_3) := (blk_cell BK102.out 3).trans rfl
         have hcz101_4 : wc.cell? ⟨gb102, 4, none⟩ = some (.slice A1_4 l1_4.length c1_4) := (blk_cell BK102.out 4).trans rfl
         have hfz101_0 := blk_frozen BK102.out 0
         have hfz101_1 := blk_frozen BK102.out 1
         have hfz101_2 := blk_frozen BK102.out 2
         have hfz101_3 := blk_frozen BK102.out 3
         have hfz101_4 := blk_frozen BK102.out 4
         go_wp2_with (first | ((with_reducible refine gate_callee (f := 38) rfl ?_); refine goesL_ (some 40) rfl rfl Tryd.func38 (by kernel_rfl) rfl #[.agg #[.int .u64 a0_0, .int .u64 a0_1, .int .u64 a0_2, .slice A0_3 l0_3.length c0_3, .slice A0_4 l0_4.length c0_4], .agg #[.int .u64 a1_0, .int .u64 a1_1, .int .u64 a1_2, .slice A1_3 l1_3.length c1_3, .slice A1_4 l1_4.length c1_4]] rfl bM ?_; (with_reducible refine (prec_Full.calls kj36 a0_0 a0_1 a0_2 _ _ l0_3 _ _ l0_4 a1_0 a1_1 a1_2 _ _ l1_3 _ _ l1_4 t111 _ ?side1 ?side2 ?side3 ?side4 ?side5 ?side6 ?side7 ?side8 A71.out).mono ?_); (case side1 => exact sW (Kd.C_below HR0_3.out HB.out)); (case side2 => exact HC0_3.out); (case side3 => exact sW (Kd.C_below HR0_4.out HB.out)); (case side4 => exact HC0_4.out); (case side5 => exact sW (Kd.C_below HR1_3.out HB.out)); (case side6 => exact HC1_3.out); (case side7 => exact sW (Kd.C_below HR1_4.out HB.out)); (case side8 => exact HC1_4.out); rintro e w102 ⟨rfl, hb⟩; refine ⟨_, rfl, ?_⟩; replace BK101 := aK BK101 hb; replace BK102 := aK BK102 hb; replace BK103 := aK BK103 hb; replace HB := aB HB hb; (try clear hb); (try clear hb2); (try clear hk); (try clear hi)))
         go_ret
         exact ⟨by first | rfl | (simp [errW_none, errW_some] <;> rfl) | (simp [*, errW_none, errW_some] <;> rfl), bB⟩
 ·replace c5 := Bool.eq_false_iff.mpr c5
  subst c5
  have H1 : (some false) = some r := by rw [if_neg (show ¬ (false = true) by decide)] at H; exact H
  clear H
  have H := H1
  clear H1
  obtain rfl := Option.some.inj H
  go_enter Tryd.func9, Tryd.ntmps9
  go_wp2_with (first | ((with_reducible refine gate_dst (N := 3) rfl ?_); refine box_event ?hg (N := 3) ?hd (cs := #[.int .u64 a0_0, .int .u64 a0_1, .int .u64 a0_2, .slice A0_3 l0_3.length c0_3, .slice A0_4 l0_4.length c0_4]) (t := 40) ?hr ?_; (case hd => rfl); (case hg => rfl); (case hr => first | (go_simp; done) | (go_simp; rfl)); intro gb101 hg w103 hbox hb; have BK101 := Aside0.mk hbox; have GW101 := Aside0.mk ((by rw [hg]; exact (below_size bB) : w.heap.size ≤ gb101)); have GE101 := Aside0.mk ((by rw [hg]; exact (below_size bB) : w.heap.size ≤ gb101)); replace HB := aB HB hb; clear hb hbox hg) | ((with_reducible refine gate_dst (N := 4) rfl ?_); refine box_event ?hg (N := 4) ?hd (cs := #[.int .u64 a1_0, .int .u64 a1_1, .int .u64 a1_2, .slice A1_3 l1_3.length c1_3, .slice A1_4 l1_4.length c1_4]) (t := 40) ?hr ?_; (case hd => rfl); (case hg => rfl); (case hr => first | (go_simp; done) | (go_simp; rfl)); intro gb102 hg w104 hbox hb; have BK102 := Aside0.mk hbox; have GW102 := Aside0.mk ((by rw [hg]; exact (below_size bB) : w.heap.size ≤ gb102)); have GE102 := Aside0.mk ((by rw [hg]; exact (below_size bB) : w.heap.size ≤ gb102)); replace HB := aB HB hb; have NB101_102 := Aside0.mk ((by rw [hg]; exact Nat.ne_of_lt (blk_lt (g := gb101) (o := .cells #[.int .u64 a0_0, .int .u64 a0_1, .int .u64 a0_2, .slice A0_3 l0_3.length c0_3, .slice A0_4 l0_4.length c0_4] 40 (0, 0)) (aKw BK101)) : gb101 ≠ gb102)); have NB102_101 := Aside0.mk ((by rw [hg]; exact Nat.ne_of_gt (blk_lt (g := gb101) (o := .cells #[.int .u64 a0_0, .int .u64 a0_1, .int .u64 a0_2, .slice A0_3 l0_3.length c0_3, .slice A0_4 l0_4.length c0_4] 40 (0, 0)) (aKw BK101)) : gb102 ≠ gb101)); replace BK101 := aK BK101 hb; clear hb hbox hg) | ((with_reducible refine gate_dst (N := 5) rfl ?_); refine box_event ?hg (N := 5) ?hd (cs := #[.int .u64 a2_0, .int .u64 a2_1, .int .u64 a2_2, .slice A2_3 l2_3.length c2_3, .slice A2_4 l2_4.length c2_4]) (t := 40) ?hr ?_; (case hd => rfl); (case hg => rfl); (case hr => first | (go_simp; done) | (go_simp; rfl)); intro gb103 hg w105 hbox hb; have BK103 := Aside0.mk hbox; have GW103 := Aside0.mk ((by rw [hg]; exact (below_size bB) : w.heap.size ≤ gb103)); have GE103 := Aside0.mk ((by rw [hg]; exact (below_size bB) : w.heap.size ≤ gb103)); replace HB := aB HB hb; have NB101_103 := Aside0.mk ((by rw [hg]; exact Nat.ne_of_lt (blk_lt (g := gb101) (o := .cells #[.int .u64 a0_0, .int .u64 a0_1, .int .u64 a0_2, .slice A0_3 l0_3.length c0_3, .slice A0_4 l0_4.length c0_4] 40 (0, 0)) (aKw BK101)) : gb101 ≠ gb103)); have NB103_101 := Aside0.mk ((by rw [hg]; exact Nat.ne_of_gt (blk_lt (g := gb101) (o := .cells #[.int .u64 a0_0, .int .u64 a0_1, .int .u64 a0_2, .slice A0_3 l0_3.length c0_3, .slice A0_4 l0_4.length c0_4] 40 (0, 0)) (aKw BK101)) : gb103 ≠ gb101)); replace BK101 := aK BK101 hb; have NB102_103 := Aside0.mk ((by rw [hg]; exact Nat.ne_of_lt (blk_lt (g := gb102) (o := .cells #[.int .u64 a1_0, .int .u64 a1_1, .int .u64 a1_2, .slice A1_3 l1_3.length c1_3, .slice A1_4 l1_4.length c1_4] 40 (0, 0)) (aKw BK102)) : gb102 ≠ gb103)); have NB103_102 := Aside0.mk ((by rw [hg]; exact Nat.ne_of_gt (blk_lt (g := gb102) (o := .cells #[.int .u64 a1_0, .int .u64 a1_1, .int .u64 a1_2, .slice A1_3 l1_3.length c1_3, .slice A1_4 l1_4.length c1_4] 40 (0, 0)) (aKw BK102)) : gb103 ≠ gb102)); replace BK102 := aK BK102 hb; clear hb hbox hg) | ((with_reducible refine gate_callee (f := 21) rfl ?_); refine goesL_ (some 7) rfl rfl Tryd.func21 (by kernel_rfl) rfl #[] rfl bM ?_; (with_reducible refine (ferrulelaw04_awake.calls k  false _ A4.out).mono ?_); rintro e w106 ⟨rfl, hb⟩; refine ⟨_, rfl, ?_⟩; replace BK101 := aK BK101 hb; replace BK102 := aK BK102 hb; replace BK103 := aK BK103 hb; replace HB := aB HB hb; (try clear hb); (try clear hb2); (try clear hk); (try clear hi)))
  go_ret
  exact ⟨by first | rfl | (simp [errW_none, errW_some] <;> rfl) | (simp [*, errW_none, errW_some] <;> rfl), bB⟩

def ferrulelaw04_PrecOrders.Pure : Prop := ∀ (a0_0 : Int) (a0_1 : Int) (a0_2 : Int) (l0_3 : List ByteArray) (l0_4 : List ByteArray) (a1_0 : Int) (a1_1 : Int) (a1_2 : Int) (l1_3 : List ByteArray) (l1_4 : List ByteArray) (a2_0 : Int) (a2_1 : Int) (a2_2 : Int) (l2_3 : List ByteArray) (l2_4 : List ByteArray), (Lit.int .u64 a0_0).wf = true → (Lit.int .u64 a0_1).wf = true → (Lit.int .u64 a0_2).wf = true → (fun l : (List ByteArray) => l.length ≤ maxLen ∧ ∀ x ∈ l, (fun s : ByteArray => s.size ≤ maxLen) x) l0_3 → (fun l : (List ByteArray) => l.length ≤ maxLen ∧ ∀ x ∈ l, (fun s : ByteArray => s.size ≤ maxLen) x) l0_4 → (Lit.int .u64 a1_0).wf = true → (Lit.int .u64 a1_1).wf = true → (Lit.int .u64 a1_2).wf = true → (fun l : (List ByteArray) => l.length ≤ maxLen ∧ ∀ x ∈ l, (fun s : ByteArray => s.size ≤ maxLen) x) l1_3 → (fun l : (List ByteArray) => l.length ≤ maxLen ∧ ∀ x ∈ l, (fun s : ByteArray => s.size ≤ maxLen) x) l1_4 → (Lit.int .u64 a2_0).wf = true → (Lit.int .u64 a2_1).wf = true → (Lit.int .u64 a2_2).wf = true → (fun l : (List ByteArray) => l.length ≤ maxLen ∧ ∀ x ∈ l, (fun s : ByteArray => s.size ≤ maxLen) x) l2_3 → (fun l : (List ByteArray) => l.length ≤ maxLen ∧ ∀ x ∈ l, (fun s : ByteArray => s.size ≤ maxLen) x) l2_4 → ∃ k, ferrulelaw04_PrecOrders.f k a0_0 a0_1 a0_2 l0_3 l0_4 a1_0 a1_1 a1_2 l1_3 l1_4 a2_0 a2_1 a2_2 l2_3 l2_4 = some true

end Go.Proofs.YtildmfegfkiknaaDoor.X
