-- Written by a program of this session (wip/xp), out of the translation. Not trusted: Lean checks it.
import Derived.Test.YtildmfegfkiknaaDoorX0
import Derived.Test.YtildmfegfkiknaaDoorXn28
import Derived.Test.YtildmfegfkiknaaDoorXn23
import Derived.Test.YtildmfegfkiknaaDoorXn31
import Derived.Test.YtildmfegfkiknaaDoorXn21
import Derived.Test.YtildmfegfkiknaaDoorXn22
import Derived.Test.YtildmfegfkiknaaDoorXn24
import Derived.Test.YtildmfegfkiknaaDoorXn29
import Derived.Test.YtildmfegfkiknaaDoorXn26
import Derived.Test.YtildmfegfkiknaaDoorXn25
import Derived.Test.YtildmfegfkiknaaDoorXn27
import Derived.Test.YtildmfegfkiknaaDoorXn30
-- shrunk
namespace Go.Proofs.YtildmfegfkiknaaDoor.X
open Go.RowKit Go.Proofs.YtildmfegfkiknaaDoorW.PrintWords Go.Proofs.YtildmfegfkiknaaDoorW.PrintLast Go.Proofs.YtildmfegfkiknaaDoorW.PrintMore
attribute [local go_sem] Lab.str_gtr Lab.str_leq Lab.str_geq max2_int min2_int max_two min_two max_three min_three max_four min_four   -- for this text's walks alone
set_option linter.unusedVariables false
set_option linter.unusedSimpArgs false

/-! ### ferrulelaw04_PrecEnds: function 6 -/
mutual
def ferrulelaw04_PrecEnds.j0 : Nat → Bool → Int → Int → Int → List ByteArray → List ByteArray → Int → Int → Int → List ByteArray → List ByteArray → Option (Bool)
 | 0, _, _, _, _, _, _, _, _, _, _, _ => none
 | k + 1, x22, x102000, x102001, x102002, x102003, x102004, x103000, x103001, x103002, x103003, x103004 => if x22 = true then (some true) else ((prec_Caret.f k x102000 x102001 x102002 x102003 x102004).bind fun bt106 => ((prec_Tilde.f k x102000 x102001 x102002 x102003 x102004).bind fun bt117 => ((ferruleref04_Caret.f x102000 x102001 x102002 x102003 x102004).bind fun bt128 => ((ferruleref04_Tilde.f x102000 x102001 x102002 x102003 x102004).bind fun bt139 => (if (bt106.2.2.2.2.2 != bt128.2.2.2.2.2) = true then (ferrulelaw04_PrecEnds.j1 k bt106.2.2.2.2.2 bt117.2.2.2.2.2 true x102000 x102001 x102002 x102003 x102004 x103000 x103001 x103002 x103003 x103004 bt106.1 bt106.2.1 bt106.2.2.1 bt106.2.2.2.1 bt106.2.2.2.2.1 bt117.1 bt117.2.1 bt117.2.2.1 bt117.2.2.2.1 bt117.2.2.2.2.1) else (if (bt117.2.2.2.2.2 != bt139.2.2.2.2.2) = true then (ferrulelaw04_PrecEnds.j1 k bt106.2.2.2.2.2 bt117.2.2.2.2.2 true x102000 x102001 x102002 x102003 x102004 x103000 x103001 x103002 x103003 x103004 bt106.1 bt106.2.1 bt106.2.2.1 bt106.2.2.2.1 bt106.2.2.2.2.1 bt117.1 bt117.2.1 bt117.2.2.1 bt117.2.2.2.1 bt117.2.2.2.2.1) else ((ferruleref03_Same.f k bt106.1 bt106.2.1 bt106.2.2.1 bt106.2.2.2.1 bt106.2.2.2.2.1 bt128.1 bt128.2.1 bt128.2.2.1 bt128.2.2.2.1 bt128.2.2.2.2.1).bind fun t150 => (if t150 = true then ((ferruleref03_Same.f k bt117.1 bt117.2.1 bt117.2.2.1 bt117.2.2.2.1 bt117.2.2.2.2.1 bt139.1 bt139.2.1 bt139.2.2.1 bt139.2.2.2.1 bt139.2.2.2.2.1).bind fun t151 => (if t151 = true then ((prec_First.f x102000 x102001 x102002).bind fun bt152 => ((ferruleref04_First.f x102000 x102001 x102002).bind fun bt161 => ((ferruleref03_Same.f k bt152.1 bt152.2.1 bt152.2.2.1 bt152.2.2.2.1 bt152.2.2.2.2 bt161.1 bt161.2.1 bt161.2.2.1 bt161.2.2.2.1 bt161.2.2.2.2).bind fun t170 => (ferrulelaw04_PrecEnds.j1 k bt106.2.2.2.2.2 bt117.2.2.2.2.2 (!t170) x102000 x102001 x102002 x102003 x102004 x103000 x103001 x103002 x103003 x103004 bt106.1 bt106.2.1 bt106.2.2.1 bt106.2.2.2.1 bt106.2.2.2.2.1 bt117.1 bt117.2.1 bt117.2.2.1 bt117.2.2.2.1 bt117.2.2.2.2.1)))) else (ferrulelaw04_PrecEnds.j1 k bt106.2.2.2.2.2 bt117.2.2.2.2.2 true x102000 x102001 x102002 x102003 x102004 x103000 x103001 x103002 x103003 x103004 bt106.1 bt106.2.1 bt106.2.2.1 bt106.2.2.2.1 bt106.2.2.2.2.1 bt117.1 bt117.2.1 bt117.2.2.1 bt117.2.2.2.1 bt117.2.2.2.2.1))) else (ferrulelaw04_PrecEnds.j1 k bt106.2.2.2.2.2 bt117.2.2.2.2.2 true x102000 x102001 x102002 x102003 x102004 x103000 x103001 x103002 x103003 x103004 bt106.1 bt106.2.1 bt106.2.2.1 bt106.2.2.2.1 bt106.2.2.2.2.1 bt117.1 bt117.2.1 bt117.2.2.1 bt117.2.2.2.1 bt117.2.2.2.2.1)))))))))
def ferrulelaw04_PrecEnds.j1 : Nat → Bool → Bool → Bool → Int → Int → Int → List ByteArray → List ByteArray → Int → Int → Int → List ByteArray → List ByteArray → Int → Int → Int → List ByteArray → List ByteArray → Int → Int → Int → List ByteArray → List ByteArray → Option (Bool)
 | 0, _, _, _, _, _, _, _, _, _, _, _, _, _, _, _, _, _, _, _, _, _, _, _ => none
 | k + 1, x6, x8, x80, x102000, x102001, x102002, x102003, x102004, x103000, x103001, x103002, x103003, x103004, x117000, x117001, x117002, x117003, x117004, x128000, x128001, x128002, x128003, x128004 => if x80 = true then (some false) else ((ferruleref03_Good.f k x102000 x102001 x102002 x102003 x102004).bind fun t171 => (if t171 = true then ((ferruleref03_Good.f k x103000 x103001 x103002 x103003 x103004).bind fun t172 => (ferrulelaw04_PrecEnds.j2 k x6 x8 (!t172) x102000 x102001 x102002 x102003 x102004 x103000 x103001 x103002 x103003 x103004 x117000 x117001 x117002 x117003 x117004 x128000 x128001 x128002 x128003 x128004)) else (ferrulelaw04_PrecEnds.j2 k x6 x8 true x102000 x102001 x102002 x102003 x102004 x103000 x103001 x103002 x103003 x103004 x117000 x117001 x117002 x117003 x117004 x128000 x128001 x128002 x128003 x128004)))
def ferrulelaw04_PrecEnds.j2 : Nat → Bool → Bool → Bool → Int → Int → Int → List ByteArray → List ByteArray → Int → Int → Int → List ByteArray → List ByteArray → Int → Int → Int → List ByteArray → List ByteArray → Int → Int → Int → List ByteArray → List ByteArray → Option (Bool)
 | 0, _, _, _, _, _, _, _, _, _, _, _, _, _, _, _, _, _, _, _, _, _, _, _ => none
 | k + 1, x6, x8, x88, x102000, x102001, x102002, x102003, x102004, x103000, x103001, x103002, x103003, x103004, x117000, x117001, x117002, x117003, x117004, x128000, x128001, x128002, x128003, x128004 => if x88 = true then (some true) else (if x6 = true then ((prec_Compare.f k x102000 x102001 x102002 x102003 x102004 x117000 x117001 x117002 x117003 x117004).bind fun t173 => (if t173 ≥ 0 then (ferrulelaw04_PrecEnds.j3 k true x103000 x103001 x103002 x103003 x103004) else (if x8 = true then ((prec_Compare.f k x102000 x102001 x102002 x102003 x102004 x128000 x128001 x128002 x128003 x128004).bind fun t174 => (ferrulelaw04_PrecEnds.j3 k (decide (t174 ≥ 0)) x103000 x103001 x103002 x103003 x103004)) else (ferrulelaw04_PrecEnds.j3 k false x103000 x103001 x103002 x103003 x103004)))) else (if x8 = true then ((prec_Compare.f k x102000 x102001 x102002 x102003 x102004 x128000 x128001 x128002 x128003 x128004).bind fun t175 => (ferrulelaw04_PrecEnds.j3 k (decide (t175 ≥ 0)) x103000 x103001 x103002 x103003 x103004)) else (ferrulelaw04_PrecEnds.j3 k false x103000 x103001 x103002 x103003 x103004)))
def ferrulelaw04_PrecEnds.j3 : Nat → Bool → Int → Int → Int → List ByteArray → List ByteArray → Option (Bool)
 | 0, _, _, _, _, _, _ => none
 | k + 1, x104, x103000, x103001, x103002, x103003, x103004 => if x104 = true then (some false) else ((prec_First.f x103000 x103001 x103002).bind fun bt176 => ((prec_Compare.f k bt176.1 bt176.2.1 bt176.2.2.1 bt176.2.2.2.1 bt176.2.2.2.2 x103000 x103001 x103002 x103003 x103004).bind fun t185 => (some (decide (t185 ≤ 0)))))
end
def ferrulelaw04_PrecEnds.f (k : Nat) (a0_0 : Int) (a0_1 : Int) (a0_2 : Int) (l0_3 : List ByteArray) (l0_4 : List ByteArray) (a1_0 : Int) (a1_1 : Int) (a1_2 : Int) (l1_3 : List ByteArray) (l1_4 : List ByteArray) : Option (Bool) := (ferrulelaw04_awake.f k).bind fun t103 => (if t103 = true then ((ferrulelaw04_short.f k a0_0 a0_1 a0_2 l0_3 l0_4).bind fun t104 => (if t104 = true then ((ferrulelaw04_short.f k a1_0 a1_1 a1_2 l1_3 l1_4).bind fun t105 => (ferrulelaw04_PrecEnds.j0 k (!t105) a0_0 a0_1 a0_2 l0_3 l0_4 a1_0 a1_1 a1_2 l1_3 l1_4)) else (ferrulelaw04_PrecEnds.j0 k true a0_0 a0_1 a0_2 l0_3 l0_4 a1_0 a1_1 a1_2 l1_3 l1_4))) else (some false))
theorem ferrulelaw04_PrecEnds.mono_l : ∀ k, (∀ y0 y1 y2 y3 y4 y5 y6 y7 y8 y9 y10, LeO (ferrulelaw04_PrecEnds.j0 k y0 y1 y2 y3 y4 y5 y6 y7 y8 y9 y10) (ferrulelaw04_PrecEnds.j0 (k + 1) y0 y1 y2 y3 y4 y5 y6 y7 y8 y9 y10)) ∧ (∀ y0 y1 y2 y3 y4 y5 y6 y7 y8 y9 y10 y11 y12 y13 y14 y15 y16 y17 y18 y19 y20 y21 y22, LeO (ferrulelaw04_PrecEnds.j1 k y0 y1 y2 y3 y4 y5 y6 y7 y8 y9 y10 y11 y12 y13 y14 y15 y16 y17 y18 y19 y20 y21 y22) (ferrulelaw04_PrecEnds.j1 (k + 1) y0 y1 y2 y3 y4 y5 y6 y7 y8 y9 y10 y11 y12 y13 y14 y15 y16 y17 y18 y19 y20 y21 y22)) ∧ (∀ y0 y1 y2 y3 y4 y5 y6 y7 y8 y9 y10 y11 y12 y13 y14 y15 y16 y17 y18 y19 y20 y21 y22, LeO (ferrulelaw04_PrecEnds.j2 k y0 y1 y2 y3 y4 y5 y6 y7 y8 y9 y10 y11 y12 y13 y14 y15 y16 y17 y18 y19 y20 y21 y22) (ferrulelaw04_PrecEnds.j2 (k + 1) y0 y1 y2 y3 y4 y5 y6 y7 y8 y9 y10 y11 y12 y13 y14 y15 y16 y17 y18 y19 y20 y21 y22)) ∧ (∀ y0 y1 y2 y3 y4 y5, LeO (ferrulelaw04_PrecEnds.j3 k y0 y1 y2 y3 y4 y5) (ferrulelaw04_PrecEnds.j3 (k + 1) y0 y1 y2 y3 y4 y5))
 | 0 => ⟨fun _ _ _ _ _ _ _ _ _ _ _ r h => by simp [ferrulelaw04_PrecEnds.j0] at h, fun _ _ _ _ _ _ _ _ _ _ _ _ _ _ _ _ _ _ _ _ _ _ _ r h => by simp [ferrulelaw04_PrecEnds.j1] at h, fun _ _ _ _ _ _ _ _ _ _ _ _ _ _ _ _ _ _ _ _ _ _ _ r h => by simp [ferrulelaw04_PrecEnds.j2] at h, fun _ _ _ _ _ _ r h => by simp [ferrulelaw04_PrecEnds.j3] at h⟩
 | k + 1 => by
  obtain ⟨ih0, ih1, ih2, ih3⟩ := ferrulelaw04_PrecEnds.mono_l k
  refine ⟨?_, ?_, ?_, ?_⟩
  ·intro y0 y1 y2 y3 y4 y5 y6 y7 y8 y9 y10
   unfold ferrulelaw04_PrecEnds.j0
   repeat' first
   | (with_reducible exact ih0 _ _ _ _ _ _ _ _ _ _ _)
   | (with_reducible exact ih1 _ _ _ _ _ _ _ _ _ _ _ _ _ _ _ _ _ _ _ _ _ _ _)
   | (with_reducible exact ih2 _ _ _ _ _ _ _ _ _ _ _ _ _ _ _ _ _ _ _ _ _ _ _)
   | (with_reducible exact ih3 _ _ _ _ _ _)
   | (with_reducible exact ferrulelaw04_awake.mono _)
   | (with_reducible exact ferrulelaw04_short.mono _ _ _ _ _ _)
   | (with_reducible exact ferruleref03_Good.mono _ _ _ _ _ _)
   | (with_reducible exact ferruleref03_Same.mono _ _ _ _ _ _ _ _ _ _ _)
   | (with_reducible exact prec_Caret.mono _ _ _ _ _ _)
   | (with_reducible exact prec_Compare.mono _ _ _ _ _ _ _ _ _ _ _)
   | (with_reducible exact prec_Tilde.mono _ _ _ _ _ _)
   | (with_reducible exact LeO.refl _)
   | (with_reducible exact LeO.none _)
   | (with_reducible refine LeO.ite ?_ ?_)
   | (with_reducible refine LeO.bind ?_ (fun _ => ?_))
   | exact ih0 _ _ _ _ _ _ _ _ _ _ _
   | exact ih1 _ _ _ _ _ _ _ _ _ _ _ _ _ _ _ _ _ _ _ _ _ _ _
   | exact ih2 _ _ _ _ _ _ _ _ _ _ _ _ _ _ _ _ _ _ _ _ _ _ _
   | exact ih3 _ _ _ _ _ _
   | exact ferrulelaw04_awake.mono _
   | exact ferrulelaw04_short.mono _ _ _ _ _ _
   | exact ferruleref03_Good.mono _ _ _ _ _ _
   | exact ferruleref03_Same.mono _ _ _ _ _ _ _ _ _ _ _
   | exact prec_Caret.mono _ _ _ _ _ _
   | exact prec_Compare.mono _ _ _ _ _ _ _ _ _ _ _
   | exact prec_Tilde.mono _ _ _ _ _ _
   | exact LeO.none _
   | refine LeO.ite ?_ ?_
   | refine LeO.bind ?_ (fun _ => ?_)
  ·intro y0 y1 y2 y3 y4 y5 y6 y7 y8 y9 y10 y11 y12 y13 y14 y15 y16 y17 y18 y19 y20 y21 y22
   unfold ferrulelaw04_PrecEnds.j1
   repeat' first
   | (with_reducible exact ih0 _ _ _ _ _ _ _ _ _ _ _)
   | (with_reducible exact ih1 _ _ _ _ _ _ _ _ _ _ _ _ _ _ _ _ _ _ _ _ _ _ _)
   | (with_reducible exact ih2 _ _ _ _ _ _ _ _ _ _ _ _ _ _ _ _ _ _ _ _ _ _ _)
   | (with_reducible exact ih3 _ _ _ _ _ _)
   | (with_reducible exact ferrulelaw04_awake.mono _)
   | (with_reducible exact ferrulelaw04_short.mono _ _ _ _ _ _)
   | (with_reducible exact ferruleref03_Good.mono _ _ _ _ _ _)
   | (with_reducible exact ferruleref03_Same.mono _ _ _ _ _ _ _ _ _ _ _)
   | (with_reducible exact prec_Caret.mono _ _ _ _ _ _)
   | (with_reducible exact prec_Compare.mono _ _ _ _ _ _ _ _ _ _ _)
   | (with_reducible exact prec_Tilde.mono _ _ _ _ _ _)
   | (with_reducible exact LeO.refl _)
   | (with_reducible exact LeO.none _)
   | (with_reducible refine LeO.ite ?_ ?_)
   | (with_reducible refine LeO.bind ?_ (fun _ => ?_))
   | exact ih0 _ _ _ _ _ _ _ _ _ _ _
   | exact ih1 _ _ _ _ _ _ _ _ _ _ _ _ _ _ _ _ _ _ _ _ _ _ _
   | exact ih2 _ _ _ _ _ _ _ _ _ _ _ _ _ _ _ _ _ _ _ _ _ _ _
   | exact ih3 _ _ _ _ _ _
   | exact ferrulelaw04_awake.mono _
   | exact ferrulelaw04_short.mono _ _ _ _ _ _
   | exact ferruleref03_Good.mono _ _ _ _ _ _
   | exact ferruleref03_Same.mono _ _ _ _ _ _ _ _ _ _ _
   | exact prec_Caret.mono _ _ _ _ _ _
   | exact prec_Compare.mono _ _ _ _ _ _ _ _ _ _ _
   | exact prec_Tilde.mono _ _ _ _ _ _
   | exact LeO.none _
   | refine LeO.ite ?_ ?_
   | refine LeO.bind ?_ (fun _ => ?_)
  ·intro y0 y1 y2 y3 y4 y5 y6 y7 y8 y9 y10 y11 y12 y13 y14 y15 y16 y17 y18 y19 y20 y21 y22
   unfold ferrulelaw04_PrecEnds.j2
   repeat' first
   | (with_reducible exact ih0 _ _ _ _ _ _ _ _ _ _ _)
   | (with_reducible exact ih1 _ _ _ _ _ _ _ _ _ _ _ _ _ _ _ _ _ _ _ _ _ _ _)
   | (with_reducible exact ih2 _ _ _ _ _ _ _ _ _ _ _ _ _ _ _ _ _ _ _ _ _ _ _)
   | (with_reducible exact ih3 _ _ _ _ _ _)
   | (with_reducible exact ferrulelaw04_awake.mono _)
   | (with_reducible exact ferrulelaw04_short.mono _ _ _ _ _ _)
   | (with_reducible exact ferruleref03_Good.mono _ _ _ _ _ _)
   | (with_reducible exact ferruleref03_Same.mono _ _ _ _ _ _ _ _ _ _ _)
   | (with_reducible exact prec_Caret.mono _ _ _ _ _ _)
   | (with_reducible exact prec_Compare.mono _ _ _ _ _ _ _ _ _ _ _)
   | (with_reducible exact prec_Tilde.mono _ _ _ _ _ _)
   | (with_reducible exact LeO.refl _)
   | (with_reducible exact LeO.none _)
   | (with_reducible refine LeO.ite ?_ ?_)
   | (with_reducible refine LeO.bind ?_ (fun _ => ?_))
   | exact ih0 _ _ _ _ _ _ _ _ _ _ _
   | exact ih1 _ _ _ _ _ _ _ _ _ _ _ _ _ _ _ _ _ _ _ _ _ _ _
   | exact ih2 _ _ _ _ _ _ _ _ _ _ _ _ _ _ _ _ _ _ _ _ _ _ _
   | exact ih3 _ _ _ _ _ _
   | exact ferrulelaw04_awake.mono _
   | exact ferrulelaw04_short.mono _ _ _ _ _ _
   | exact ferruleref03_Good.mono _ _ _ _ _ _
   | exact ferruleref03_Same.mono _ _ _ _ _ _ _ _ _ _ _
   | exact prec_Caret.mono _ _ _ _ _ _
   | exact prec_Compare.mono _ _ _ _ _ _ _ _ _ _ _
   | exact prec_Tilde.mono _ _ _ _ _ _
   | exact LeO.none _
   | refine LeO.ite ?_ ?_
   | refine LeO.bind ?_ (fun _ => ?_)
  ·intro y0 y1 y2 y3 y4 y5
   unfold ferrulelaw04_PrecEnds.j3
   repeat' first
   | (with_reducible exact ih0 _ _ _ _ _ _ _ _ _ _ _)
   | (with_reducible exact ih1 _ _ _ _ _ _ _ _ _ _ _ _ _ _ _ _ _ _ _ _ _ _ _)
   | (with_reducible exact ih2 _ _ _ _ _ _ _ _ _ _ _ _ _ _ _ _ _ _ _ _ _ _ _)
   | (with_reducible exact ih3 _ _ _ _ _ _)
   | (with_reducible exact ferrulelaw04_awake.mono _)
   | (with_reducible exact ferrulelaw04_short.mono _ _ _ _ _ _)
   | (with_reducible exact ferruleref03_Good.mono _ _ _ _ _ _)
   | (with_reducible exact ferruleref03_Same.mono _ _ _ _ _ _ _ _ _ _ _)
   | (with_reducible exact prec_Caret.mono _ _ _ _ _ _)
   | (with_reducible exact prec_Compare.mono _ _ _ _ _ _ _ _ _ _ _)
   | (with_reducible exact prec_Tilde.mono _ _ _ _ _ _)
   | (with_reducible exact LeO.refl _)
   | (with_reducible exact LeO.none _)
   | (with_reducible refine LeO.ite ?_ ?_)
   | (with_reducible refine LeO.bind ?_ (fun _ => ?_))
   | exact ih0 _ _ _ _ _ _ _ _ _ _ _
   | exact ih1 _ _ _ _ _ _ _ _ _ _ _ _ _ _ _ _ _ _ _ _ _ _ _
   | exact ih2 _ _ _ _ _ _ _ _ _ _ _ _ _ _ _ _ _ _ _ _ _ _ _
   | exact ih3 _ _ _ _ _ _
   | exact ferrulelaw04_awake.mono _
   | exact ferrulelaw04_short.mono _ _ _ _ _ _
   | exact ferruleref03_Good.mono _ _ _ _ _ _
   | exact ferruleref03_Same.mono _ _ _ _ _ _ _ _ _ _ _
   | exact prec_Caret.mono _ _ _ _ _ _
   | exact prec_Compare.mono _ _ _ _ _ _ _ _ _ _ _
   | exact prec_Tilde.mono _ _ _ _ _ _
   | exact LeO.none _
   | refine LeO.ite ?_ ?_
   | refine LeO.bind ?_ (fun _ => ?_)
theorem ferrulelaw04_PrecEnds.mono : ∀ a0 a1 a2 a3 a4 a5 a6 a7 a8 a9 k, LeO (ferrulelaw04_PrecEnds.f k a0 a1 a2 a3 a4 a5 a6 a7 a8 a9) (ferrulelaw04_PrecEnds.f (k + 1) a0 a1 a2 a3 a4 a5 a6 a7 a8 a9) := by
 intro a0 a1 a2 a3 a4 a5 a6 a7 a8 a9 k
 obtain ⟨ih0, ih1, ih2, ih3⟩ := ferrulelaw04_PrecEnds.mono_l k
 unfold ferrulelaw04_PrecEnds.f
 repeat' first
   | (with_reducible exact ih0 _ _ _ _ _ _ _ _ _ _ _)
   | (with_reducible exact ih1 _ _ _ _ _ _ _ _ _ _ _ _ _ _ _ _ _ _ _ _ _ _ _)
   | (with_reducible exact ih2 _ _ _ _ _ _ _ _ _ _ _ _ _ _ _ _ _ _ _ _ _ _ _)
   | (with_reducible exact ih3 _ _ _ _ _ _)
   | (with_reducible exact ferrulelaw04_awake.mono _)
   | (with_reducible exact ferrulelaw04_short.mono _ _ _ _ _ _)
   | (with_reducible exact ferruleref03_Good.mono _ _ _ _ _ _)
   | (with_reducible exact ferruleref03_Same.mono _ _ _ _ _ _ _ _ _ _ _)
   | (with_reducible exact prec_Caret.mono _ _ _ _ _ _)
   | (with_reducible exact prec_Compare.mono _ _ _ _ _ _ _ _ _ _ _)
   | (with_reducible exact prec_Tilde.mono _ _ _ _ _ _)
   | (with_reducible exact LeO.refl _)
   | (with_reducible exact LeO.none _)
   | (with_reducible refine LeO.ite ?_ ?_)
   | (with_reducible refine LeO.bind ?_ (fun _ => ?_))
   | exact ih0 _ _ _ _ _ _ _ _ _ _ _
   | exact ih1 _ _ _ _ _ _ _ _ _ _ _ _ _ _ _ _ _ _ _ _ _ _ _
   | exact ih2 _ _ _ _ _ _ _ _ _ _ _ _ _ _ _ _ _ _ _ _ _ _ _
   | exact ih3 _ _ _ _ _ _
   | exact ferrulelaw04_awake.mono _
   | exact ferrulelaw04_short.mono _ _ _ _ _ _
   | exact ferruleref03_Good.mono _ _ _ _ _ _
   | exact ferruleref03_Same.mono _ _ _ _ _ _ _ _ _ _ _
   | exact prec_Caret.mono _ _ _ _ _ _
   | exact prec_Compare.mono _ _ _ _ _ _ _ _ _ _ _
   | exact prec_Tilde.mono _ _ _ _ _ _
   | exact LeO.none _
   | refine LeO.ite ?_ ?_
   | refine LeO.bind ?_ (fun _ => ?_)
def ferrulelaw04_PrecEnds.T9 : Bool × List (List Nat × List Nat) := (true, [([], []), ([], []), ([0, 1], [0, 1]), ([2], [2]), ([3], [3]), ([3], [3]), ([4, 5, 3], [3, 4, 5]), ([3, 6], [3, 6]), ([7, 3], [7]), ([8], [8]), ([8], [8]), ([9, 10, 8, 8], [8, 9, 10]), ([11, 8], [8, 11]), ([8, 12], [8, 12]), ([13, 11], [13]), ([14], [14]), ([14], [14]), ([15, 16, 14, 14], [14, 15, 16]), ([17, 14], [14, 17]), ([14, 18], [14, 18]), ([19, 17], [19]), ([20], [20]), ([21, 20], [20, 21]), ([20], [20]), ([23, 20], [20, 23]), ([20], [20]), ([25, 20], [20, 25]), ([22, 24, 26, 20, 20], [20, 22, 24, 26]), ([20], [20]), ([28, 20], [20, 28]), ([20], [20]), ([30, 20], [20, 30]), ([20], [20]), ([32, 20], [20, 32]), ([29, 31, 33, 27, 20], [20, 29, 31, 33]), ([27, 34, 34, 20], [20, 27, 34]), ([35, 20], [20, 35]), ([20, 36], [20, 36])])
def ferrulelaw04_PrecEnds.B9 : List Nat := [0, 0, 3, 7, 15, 15, 63, 127, 255, 511, 511, 2047, 4095, 8191, 16383, 32767, 32767, 131071, 262143, 524287, 1048575, 2097151, 4194303, 2097151, 10485759, 2097151, 35651583, 134217727, 2097151, 270532607, 2097151, 1075838975, 2097151, 4297064447, 17179869183, 34359738367, 68719476735, 137438953471]
theorem ferrulelaw04_PrecEnds.tab9 : rtab .any (opsOf Tryd.f6 9) = ferrulelaw04_PrecEnds.T9 := by kernel_rfl
theorem ferrulelaw04_PrecEnds.bits9 : waitsOk ferrulelaw04_PrecEnds.T9.2 ferrulelaw04_PrecEnds.B9 = true := by kernel_rfl
def ferrulelaw04_PrecEnds.T15 : Bool × List (List Nat × List Nat) := (true, [([], []), ([0], [0]), ([], []), ([2], [2]), ([], []), ([4], [4]), ([1, 3, 5], [1, 3, 5]), ([], []), ([6, 7, 6], [6, 7]), ([8], [8]), ([9, 8, 0, 1, 2, 3, 4, 5, 6, 7, 8, 9], [9])])
def ferrulelaw04_PrecEnds.B15 : List Nat := [0, 1, 0, 4, 0, 16, 63, 0, 255, 511, 1023]
theorem ferrulelaw04_PrecEnds.tab15 : rtab .any (opsOf Tryd.f6 15) = ferrulelaw04_PrecEnds.T15 := by kernel_rfl
theorem ferrulelaw04_PrecEnds.bits15 : waitsOk ferrulelaw04_PrecEnds.T15.2 ferrulelaw04_PrecEnds.B15 = true := by kernel_rfl
set_option maxHeartbeats 8000000 in
set_option maxRecDepth 100000 in
theorem ferrulelaw04_PrecEnds.calls (k : Nat) (a0_0 : Int) (a0_1 : Int) (a0_2 : Int) (A0_3 : Option Addr) (c0_3 : Nat) (l0_3 : List ByteArray) (A0_4 : Option Addr) (c0_4 : Nat) (l0_4 : List ByteArray) (a1_0 : Int) (a1_1 : Int) (a1_2 : Int) (A1_3 : Option Addr) (c1_3 : Nat) (l1_3 : List ByteArray) (A1_4 : Option Addr) (c1_4 : Nat) (l1_4 : List ByteArray) (r : Bool) (w : World) (hr0_3 : Kd.C Kd.string w A0_3 l0_3.length l0_3) (hc0_3 : l0_3.length ≤ c0_3) (hr0_4 : Kd.C Kd.string w A0_4 l0_4.length l0_4) (hc0_4 : l0_4.length ≤ c0_4) (hr1_3 : Kd.C Kd.string w A1_3 l1_3.length l1_3) (hc1_3 : l1_3.length ≤ c1_3) (hr1_4 : Kd.C Kd.string w A1_4 l1_4.length l1_4) (hc1_4 : l1_4.length ≤ c1_4) (h : ferrulelaw04_PrecEnds.f k a0_0 a0_1 a0_2 l0_3 l0_4 a1_0 a1_1 a1_2 l1_3 l1_4 = some r) :
  Calls Tryd.prog 6 #[.agg #[.int .u64 a0_0, .int .u64 a0_1, .int .u64 a0_2, .slice A0_3 l0_3.length c0_3, .slice A0_4 l0_4.length c0_4], .agg #[.int .u64 a1_0, .int .u64 a1_1, .int .u64 a1_2, .slice A1_3 l1_3.length c1_3, .slice A1_4 l1_4.length c1_4]] w fun e w' => e = .returned (.bool r) ∧ Below w.heap.size w w' := by
 have hu40 := Tryd.underlying40
 have HR0_3 := Aside0.mk hr0_3
 have HC0_3 := Aside0.mk hc0_3
 clear hr0_3 hc0_3
 have HR0_4 := Aside0.mk hr0_4
 have HC0_4 := Aside0.mk hc0_4
 clear hr0_4 hc0_4
 have HR1_3 := Aside0.mk hr1_3
 have HC1_3 := Aside0.mk hc1_3
 clear hr1_3 hc1_3
 have HR1_4 := Aside0.mk hr1_4
 have HC1_4 := Aside0.mk hc1_4
 clear hr1_4 hc1_4
 have HB := Aside0.mk (Below.refl w.heap.size w)
 have H : ((ferrulelaw04_awake.f k).bind fun t103 => (if t103 = true then ((ferrulelaw04_short.f k a0_0 a0_1 a0_2 l0_3 l0_4).bind fun t104 => (if t104 = true then ((ferrulelaw04_short.f k a1_0 a1_1 a1_2 l1_3 l1_4).bind fun t105 => (ferrulelaw04_PrecEnds.j0 k (!t105) a0_0 a0_1 a0_2 l0_3 l0_4 a1_0 a1_1 a1_2 l1_3 l1_4)) else (ferrulelaw04_PrecEnds.j0 k true a0_0 a0_1 a0_2 l0_3 l0_4 a1_0 a1_1 a1_2 l1_3 l1_4))) else (some false))) = some r := h
 clear h
 replace H := Option.bind_eq_some_iff.mp H
 obtain ⟨t103, A30, H⟩ := H
 replace H : (if t103 = true then ((ferrulelaw04_short.f k a0_0 a0_1 a0_2 l0_3 l0_4).bind fun t104 => (if t104 = true then ((ferrulelaw04_short.f k a1_0 a1_1 a1_2 l1_3 l1_4).bind fun t105 => (ferrulelaw04_PrecEnds.j0 k (!t105) a0_0 a0_1 a0_2 l0_3 l0_4 a1_0 a1_1 a1_2 l1_3 l1_4)) else (ferrulelaw04_PrecEnds.j0 k true a0_0 a0_1 a0_2 l0_3 l0_4 a1_0 a1_1 a1_2 l1_3 l1_4))) else (some false)) = some r := H
 have A3 := Aside0.mk A30
 clear A30
 by_cases c4 : t103 = true
 ·subst c4
  have H1 : ((ferrulelaw04_short.f k a0_0 a0_1 a0_2 l0_3 l0_4).bind fun t104 => (if t104 = true then ((ferrulelaw04_short.f k a1_0 a1_1 a1_2 l1_3 l1_4).bind fun t105 => (ferrulelaw04_PrecEnds.j0 k (!t105) a0_0 a0_1 a0_2 l0_3 l0_4 a1_0 a1_1 a1_2 l1_3 l1_4)) else (ferrulelaw04_PrecEnds.j0 k true a0_0 a0_1 a0_2 l0_3 l0_4 a1_0 a1_1 a1_2 l1_3 l1_4))) = some r := by rw [if_pos rfl] at H; exact H
  clear H
  have H := H1
  clear H1
  have HC5 := Aside0.mk H
  clear H
  go_enter Tryd.func6, Tryd.ntmps6
  go_upto_region 3 with (first | ((with_reducible refine gate_dst (N := 2) rfl ?_); refine box_event ?hg (N := 2) ?hd (cs := #[.int .u64 a0_0, .int .u64 a0_1, .int .u64 a0_2, .slice A0_3 l0_3.length c0_3, .slice A0_4 l0_4.length c0_4]) (t := 40) ?hr ?_; (case hd => rfl); (case hg => rfl); (case hr => first | (go_simp; done) | (go_simp; rfl)); intro gb101 hg w6 hbox hb; have BK101 := Aside0.mk hbox; have GW101 := Aside0.mk ((by rw [hg]; exact (below_size bB) : w.heap.size ≤ gb101)); have GE101 := Aside0.mk ((by rw [hg]; exact (below_size bB) : w.heap.size ≤ gb101)); replace HB := aB HB hb; clear hb hbox hg) | ((with_reducible refine gate_dst (N := 3) rfl ?_); refine box_event ?hg (N := 3) ?hd (cs := #[.int .u64 a1_0, .int .u64 a1_1, .int .u64 a1_2, .slice A1_3 l1_3.length c1_3, .slice A1_4 l1_4.length c1_4]) (t := 40) ?hr ?_; (case hd => rfl); (case hg => rfl); (case hr => first | (go_simp; done) | (go_simp; rfl)); intro gb102 hg w7 hbox hb; have BK102 := Aside0.mk hbox; have GW102 := Aside0.mk ((by rw [hg]; exact (below_size bB) : w.heap.size ≤ gb102)); have GE102 := Aside0.mk ((by rw [hg]; exact (below_size bB) : w.heap.size ≤ gb102)); replace HB := aB HB hb; have NB101_102 := Aside0.mk ((by rw [hg]; exact Nat.ne_of_lt (blk_lt (g := gb101) (o := .cells #[.int .u64 a0_0, .int .u64 a0_1, .int .u64 a0_2, .slice A0_3 l0_3.length c0_3, .slice A0_4 l0_4.length c0_4] 40 (0, 0)) (aKw BK101)) : gb101 ≠ gb102)); have NB102_101 := Aside0.mk ((by rw [hg]; exact Nat.ne_of_gt (blk_lt (g := gb101) (o := .cells #[.int .u64 a0_0, .int .u64 a0_1, .int .u64 a0_2, .slice A0_3 l0_3.length c0_3, .slice A0_4 l0_4.length c0_4] 40 (0, 0)) (aKw BK101)) : gb102 ≠ gb101)); replace BK101 := aK BK101 hb; clear hb hbox hg) | ((with_reducible refine gate_callee (f := 21) rfl ?_); refine goesL_ (some 13) rfl rfl Tryd.func21 (by kernel_rfl) rfl #[] rfl bM ?_; (with_reducible refine (ferrulelaw04_awake.calls k  true _ A3.out).mono ?_); rintro e w8 ⟨rfl, hb⟩; refine ⟨_, rfl, ?_⟩; replace BK101 := aK BK101 hb; replace BK102 := aK BK102 hb; replace HB := aB HB hb; (try clear hb); (try clear hb2); (try clear hk); (try clear hi)))
  (try simp only [Act.put, List.setIfInBounds_toArray, List.set_cons_zero, List.set_cons_succ])
  go_cut [22] (fun v22 wc => ∃ (kq : Nat) (x22_4 : Bool), v22 = .bool x22_4 ∧ Aside0 (ferrulelaw04_PrecEnds.j0 kq x22_4 a0_0 a0_1 a0_2 l0_3 l0_4 a1_0 a1_1 a1_2 l1_3 l1_4 = some r) ∧ Aside0 (kq ≤ k) ∧ Aside0 (wc.heap[gb101]? = some (.cells #[.int .u64 a0_0, .int .u64 a0_1, .int .u64 a0_2, (.slice A0_3 l0_3.length c0_3), (.slice A0_4 l0_4.length c0_4)] 40 (0, 0))) ∧ Aside0 (wc.heap[gb102]? = some (.cells #[.int .u64 a1_0, .int .u64 a1_1, .int .u64 a1_2, (.slice A1_3 l1_3.length c1_3), (.slice A1_4 l1_4.length c1_4)] 40 (0, 0))) ∧ Aside0 (Below w.heap.size w wc))
  case first =>
   have H := HC5.out
   clear HC5
   replace H := Option.bind_eq_some_iff.mp H
   obtain ⟨t104, A90, H⟩ := H
   replace H : (if t104 = true then ((ferrulelaw04_short.f k a1_0 a1_1 a1_2 l1_3 l1_4).bind fun t105 => (ferrulelaw04_PrecEnds.j0 k (!t105) a0_0 a0_1 a0_2 l0_3 l0_4 a1_0 a1_1 a1_2 l1_3 l1_4)) else (ferrulelaw04_PrecEnds.j0 k true a0_0 a0_1 a0_2 l0_3 l0_4 a1_0 a1_1 a1_2 l1_3 l1_4)) = some r := H
   have A9 := Aside0.mk A90
   clear A90
   by_cases c10 : t104 = true
   ·subst c10
    have H1 : ((ferrulelaw04_short.f k a1_0 a1_1 a1_2 l1_3 l1_4).bind fun t105 => (ferrulelaw04_PrecEnds.j0 k (!t105) a0_0 a0_1 a0_2 l0_3 l0_4 a1_0 a1_1 a1_2 l1_3 l1_4)) = some r := by rw [if_pos rfl] at H; exact H
    clear H
    have H := H1
    clear H1
    replace H := Option.bind_eq_some_iff.mp H
    obtain ⟨t105, A110, H⟩ := H
    replace H : (ferrulelaw04_PrecEnds.j0 k (!t105) a0_0 a0_1 a0_2 l0_3 l0_4 a1_0 a1_1 a1_2 l1_3 l1_4) = some r := H
    have A11 := Aside0.mk A110
    clear A110
    have H' := Aside0.mk H
    clear H
    have hnb12 := NB101_102.out
    have hnc12 := NB102_101.out
    have hcz13_0 : w8.cell? ⟨gb101, 0, none⟩ = some (.int .u64 a0_0) := (blk_cell BK101.out 0).trans rfl
    have hcz13_1 : w8.cell? ⟨gb101, 1, none⟩ = some (.int .u64 a0_1) := (blk_cell BK101.out 1).trans rfl
    have hcz13_2 : w8.cell? ⟨gb101, 2, none⟩ = some (.int .u64 a0_2) := (blk_cell BK101.out 2).trans rfl
    have hcz13_3 : w8.cell? ⟨gb101, 3, none⟩ = some (.slice A0_3 l0_3.length c0_3) := (blk_cell BK101.out 3).trans rfl
    have hcz13_4 : w8.cell? ⟨gb101, 4, none⟩ = some (.slice A0_4 l0_4.length c0_4) := (blk_cell BK101.out 4).trans rfl
    have hfz13_0 := blk_frozen BK101.out 0
    have hfz13_1 := blk_frozen BK101.out 1
    have hfz13_2 := blk_frozen BK101.out 2
    have hfz13_3 := blk_frozen BK101.out 3
    have hfz13_4 := blk_frozen BK101.out 4
    go_wp2_with (first | ((with_reducible refine gate_callee (f := 22) rfl ?_); refine goesL_ (some 16) rfl rfl Tryd.func22 (by kernel_rfl) rfl #[.agg #[.int .u64 a0_0, .int .u64 a0_1, .int .u64 a0_2, .slice A0_3 l0_3.length c0_3, .slice A0_4 l0_4.length c0_4]] rfl bM ?_; (with_reducible refine (ferrulelaw04_short.calls k a0_0 a0_1 a0_2 _ _ l0_3 _ _ l0_4 true _ ?side1 ?side2 ?side3 ?side4 A9.out).mono ?_); (case side1 => exact sW (Kd.C_below HR0_3.out HB.out)); (case side2 => exact HC0_3.out); (case side3 => exact sW (Kd.C_below HR0_4.out HB.out)); (case side4 => exact HC0_4.out); rintro e w14 ⟨rfl, hb⟩; refine ⟨_, rfl, ?_⟩; replace BK101 := aK BK101 hb; replace BK102 := aK BK102 hb; replace HB := aB HB hb; (try clear hb); (try clear hb2); (try clear hk); (try clear hi); have hcz15_0 : w14.cell? ⟨gb102, 0, none⟩ = some (.int .u64 a1_0) := (blk_cell BK102.out 0).trans rfl; have hcz15_1 : w14.cell? ⟨gb102, 1, none⟩ = some (.int .u64 a1_1) := (blk_cell BK102.out 1).trans rfl; have hcz15_2 : w14.cell? ⟨gb102, 2, none⟩ = some (.int .u64 a1_2) := (blk_cell BK102.out 2).trans rfl; have hcz15_3 : w14.cell? ⟨gb102, 3, none⟩ = some (.slice A1_3 l1_3.length c1_3) := (blk_cell BK102.out 3).trans rfl; have hcz15_4 : w14.cell? ⟨gb102, 4, none⟩ = some (.slice A1_4 l1_4.length c1_4) := (blk_cell BK102.out 4).trans rfl; have hfz15_0 := blk_frozen BK102.out 0; have hfz15_1 := blk_frozen BK102.out 1; have hfz15_2 := blk_frozen BK102.out 2; have hfz15_3 := blk_frozen BK102.out 3; have hfz15_4 := blk_frozen BK102.out 4) | (go_at_call 22; (with_reducible refine (ferrulelaw04_short.calls k a1_0 a1_1 a1_2 _ _ l1_3 _ _ l1_4 t105 _ ?side1 ?side2 ?side3 ?side4 A11.out).mono ?_); (case side1 => exact sW (Kd.C_below HR1_3.out HB.out)); (case side2 => exact HC1_3.out); (case side3 => exact sW (Kd.C_below HR1_4.out HB.out)); (case side4 => exact HC1_4.out); rintro e w16 ⟨rfl, hb⟩; replace BK101 := aK BK101 hb; replace BK102 := aK BK102 hb; replace HB := aB HB hb; (try clear hb); (try clear hb2); (try clear hk); (try clear hi)))
    go_meet
    case rel => exact ⟨_, (!t105), bS, H', ⟨by first | omega | exact Nat.le_refl _⟩, ⟨aKw BK101⟩, ⟨aKw BK102⟩, ⟨bB⟩⟩
   ·replace c10 := Bool.eq_false_iff.mpr c10
    subst c10
    have H1 : (ferrulelaw04_PrecEnds.j0 k true a0_0 a0_1 a0_2 l0_3 l0_4 a1_0 a1_1 a1_2 l1_3 l1_4) = some r := by rw [if_neg (show ¬ (false = true) by decide)] at H; exact H
    clear H
    have H := H1
    clear H1
    have H' := Aside0.mk H
    clear H
    have hnb17 := NB101_102.out
    have hnc17 := NB102_101.out
    have hcz18_0 : w8.cell? ⟨gb101, 0, none⟩ = some (.int .u64 a0_0) := (blk_cell BK101.out 0).trans rfl
    have hcz18_1 : w8.cell? ⟨gb101, 1, none⟩ = some (.int .u64 a0_1) := (blk_cell BK101.out 1).trans rfl
    have hcz18_2 : w8.cell? ⟨gb101, 2, none⟩ = some (.int .u64 a0_2) := (blk_cell BK101.out 2).trans rfl
    have hcz18_3 : w8.cell? ⟨gb101, 3, none⟩ = some (.slice A0_3 l0_3.length c0_3) := (blk_cell BK101.out 3).trans rfl
    have hcz18_4 : w8.cell? ⟨gb101, 4, none⟩ = some (.slice A0_4 l0_4.length c0_4) := (blk_cell BK101.out 4).trans rfl
    have hfz18_0 := blk_frozen BK101.out 0
    have hfz18_1 := blk_frozen BK101.out 1
    have hfz18_2 := blk_frozen BK101.out 2
    have hfz18_3 := blk_frozen BK101.out 3
    have hfz18_4 := blk_frozen BK101.out 4
    go_wp2_with (first | ((with_reducible refine gate_callee (f := 22) rfl ?_); refine goesL_ (some 16) rfl rfl Tryd.func22 (by kernel_rfl) rfl #[.agg #[.int .u64 a0_0, .int .u64 a0_1, .int .u64 a0_2, .slice A0_3 l0_3.length c0_3, .slice A0_4 l0_4.length c0_4]] rfl bM ?_; (with_reducible refine (ferrulelaw04_short.calls k a0_0 a0_1 a0_2 _ _ l0_3 _ _ l0_4 false _ ?side1 ?side2 ?side3 ?side4 A9.out).mono ?_); (case side1 => exact sW (Kd.C_below HR0_3.out HB.out)); (case side2 => exact HC0_3.out); (case side3 => exact sW (Kd.C_below HR0_4.out HB.out)); (case side4 => exact HC0_4.out); rintro e w19 ⟨rfl, hb⟩; refine ⟨_, rfl, ?_⟩; replace BK101 := aK BK101 hb; replace BK102 := aK BK102 hb; replace HB := aB HB hb; (try clear hb); (try clear hb2); (try clear hk); (try clear hi)))
    go_meet
    case rel => exact ⟨_, (true), bS, H', ⟨by first | omega | exact Nat.le_refl _⟩, ⟨aKw BK101⟩, ⟨aKw BK102⟩, ⟨bB⟩⟩
  case rest =>
   clear HC5
   try clear c1
   try clear c2
   try clear p2
   try clear c4
   try clear c6
   try clear p6
   try clear c10
   try clear c12
   try clear c17
   try clear hcz13_0
   try clear hcz13_1
   try clear hcz13_2
   try clear hcz13_3
   try clear hcz13_4
   try clear hcz15_0
   try clear hcz15_1
   try clear hcz15_2
   try clear hcz15_3
   try clear hcz15_4
   try clear hcz18_0
   try clear hcz18_1
   try clear hcz18_2
   try clear hcz18_3
   try clear hcz18_4
   try clear hfz13_0
   try clear hfz13_1
   try clear hfz13_2
   try clear hfz13_3
   try clear hfz13_4
   try clear hfz15_0
   try clear hfz15_1
   try clear hfz15_2
   try clear hfz15_3
   try clear hfz15_4
   try clear hfz18_0
   try clear hfz18_1
   try clear hfz18_2
   try clear hfz18_3
   try clear hfz18_4
   obtain ⟨kq, x22_4, rfl, HA, HJ4, BK101, BK102, HB⟩ := hcut
   cases kq with
   | zero => exact absurd HA.out (by simp [ferrulelaw04_PrecEnds.j0])
   | succ kj4 =>
    have H := HA.out
    clear HA
    simp only [ferrulelaw04_PrecEnds.j0] at H
    by_cases c20 : x22_4 = true
    ·subst c20
     have H1 : (some true) = some r := by rw [if_pos rfl] at H; exact H
     clear H
     have H := H1
     clear H1
     obtain rfl := Option.some.inj H
     go_wp2
     go_ret
     exact ⟨by first | rfl | (simp [errW_none, errW_some] <;> rfl) | (simp [*, errW_none, errW_some] <;> rfl), bB⟩
    ·replace c20 := Bool.eq_false_iff.mpr c20
     subst c20
     have H1 : ((prec_Caret.f kj4 a0_0 a0_1 a0_2 l0_3 l0_4).bind fun bt106 => ((prec_Tilde.f kj4 a0_0 a0_1 a0_2 l0_3 l0_4).bind fun bt117 => ((ferruleref04_Caret.f a0_0 a0_1 a0_2 l0_3 l0_4).bind fun bt128 => ((ferruleref04_Tilde.f a0_0 a0_1 a0_2 l0_3 l0_4).bind fun bt139 => (if (bt106.2.2.2.2.2 != bt128.2.2.2.2.2) = true then (ferrulelaw04_PrecEnds.j1 kj4 bt106.2.2.2.2.2 bt117.2.2.2.2.2 true a0_0 a0_1 a0_2 l0_3 l0_4 a1_0 a1_1 a1_2 l1_3 l1_4 bt106.1 bt106.2.1 bt106.2.2.1 bt106.2.2.2.1 bt106.2.2.2.2.1 bt117.1 bt117.2.1 bt117.2.2.1 bt117.2.2.2.1 bt117.2.2.2.2.1) else (if (bt117.2.2.2.2.2 != bt139.2.2.2.2.2) = true then (ferrulelaw04_PrecEnds.j1 kj4 bt106.2.2.2.2.2 bt117.2.2.2.2.2 true a0_0 a0_1 a0_2 l0_3 l0_4 a1_0 a1_1 a1_2 l1_3 l1_4 bt106.1 bt106.2.1 bt106.2.2.1 bt106.2.2.2.1 bt106.2.2.2.2.1 bt117.1 bt117.2.1 bt117.2.2.1 bt117.2.2.2.1 bt117.2.2.2.2.1) else ((ferruleref03_Same.f kj4 bt106.1 bt106.2.1 bt106.2.2.1 bt106.2.2.2.1 bt106.2.2.2.2.1 bt128.1 bt128.2.1 bt128.2.2.1 bt128.2.2.2.1 bt128.2.2.2.2.1).bind fun t150 => (if t150 = true then ((ferruleref03_Same.f kj4 bt117.1 bt117.2.1 bt117.2.2.1 bt117.2.2.2.1 bt117.2.2.2.2.1 bt139.1 bt139.2.1 bt139.2.2.1 bt139.2.2.2.1 bt139.2.2.2.2.1).bind fun t151 => (if t151 = true then ((prec_First.f a0_0 a0_1 a0_2).bind fun bt152 => ((ferruleref04_First.f a0_0 a0_1 a0_2).bind fun bt161 => ((ferruleref03_Same.f kj4 bt152.1 bt152.2.1 bt152.2.2.1 bt152.2.2.2.1 bt152.2.2.2.2 bt161.1 bt161.2.1 bt161.2.2.1 bt161.2.2.2.1 bt161.2.2.2.2).bind fun t170 => (ferrulelaw04_PrecEnds.j1 kj4 bt106.2.2.2.2.2 bt117.2.2.2.2.2 (!t170) a0_0 a0_1 a0_2 l0_3 l0_4 a1_0 a1_1 a1_2 l1_3 l1_4 bt106.1 bt106.2.1 bt106.2.2.1 bt106.2.2.2.1 bt106.2.2.2.2.1 bt117.1 bt117.2.1 bt117.2.2.1 bt117.2.2.2.1 bt117.2.2.2.2.1)))) else (ferrulelaw04_PrecEnds.j1 kj4 bt106.2.2.2.2.2 bt117.2.2.2.2.2 true a0_0 a0_1 a0_2 l0_3 l0_4 a1_0 a1_1 a1_2 l1_3 l1_4 bt106.1 bt106.2.1 bt106.2.2.1 bt106.2.2.2.1 bt106.2.2.2.2.1 bt117.1 bt117.2.1 bt117.2.2.1 bt117.2.2.2.1 bt117.2.2.2.2.1))) else (ferrulelaw04_PrecEnds.j1 kj4 bt106.2.2.2.2.2 bt117.2.2.2.2.2 true a0_0 a0_1 a0_2 l0_3 l0_4 a1_0 a1_1 a1_2 l1_3 l1_4 bt106.1 bt106.2.1 bt106.2.2.1 bt106.2.2.2.1 bt106.2.2.2.2.1 bt117.1 bt117.2.1 bt117.2.2.1 bt117.2.2.2.1 bt117.2.2.2.2.1))))))))) = some r := by rw [if_neg (show ¬ (false = true) by decide)] at H; exact H
     clear H
     have H := H1
     clear H1
     replace H := Option.bind_eq_some_iff.mp H
     obtain ⟨⟨t106, t107, t108, t109, t112, t115⟩, A210, H⟩ := H
     replace H : ((prec_Tilde.f kj4 a0_0 a0_1 a0_2 l0_3 l0_4).bind fun bt117 => ((ferruleref04_Caret.f a0_0 a0_1 a0_2 l0_3 l0_4).bind fun bt128 => ((ferruleref04_Tilde.f a0_0 a0_1 a0_2 l0_3 l0_4).bind fun bt139 => (if (t115 != bt128.2.2.2.2.2) = true then (ferrulelaw04_PrecEnds.j1 kj4 t115 bt117.2.2.2.2.2 true a0_0 a0_1 a0_2 l0_3 l0_4 a1_0 a1_1 a1_2 l1_3 l1_4 t106 t107 t108 t109 t112 bt117.1 bt117.2.1 bt117.2.2.1 bt117.2.2.2.1 bt117.2.2.2.2.1) else (if (bt117.2.2.2.2.2 != bt139.2.2.2.2.2) = true then (ferrulelaw04_PrecEnds.j1 kj4 t115 bt117.2.2.2.2.2 true a0_0 a0_1 a0_2 l0_3 l0_4 a1_0 a1_1 a1_2 l1_3 l1_4 t106 t107 t108 t109 t112 bt117.1 bt117.2.1 bt117.2.2.1 bt117.2.2.2.1 bt117.2.2.2.2.1) else ((ferruleref03_Same.f kj4 t106 t107 t108 t109 t112 bt128.1 bt128.2.1 bt128.2.2.1 bt128.2.2.2.1 bt128.2.2.2.2.1).bind fun t150 => (if t150 = true then ((ferruleref03_Same.f kj4 bt117.1 bt117.2.1 bt117.2.2.1 bt117.2.2.2.1 bt117.2.2.2.2.1 bt139.1 bt139.2.1 bt139.2.2.1 bt139.2.2.2.1 bt139.2.2.2.2.1).bind fun t151 => (if t151 = true then ((prec_First.f a0_0 a0_1 a0_2).bind fun bt152 => ((ferruleref04_First.f a0_0 a0_1 a0_2).bind fun bt161 => ((ferruleref03_Same.f kj4 bt152.1 bt152.2.1 bt152.2.2.1 bt152.2.2.2.1 bt152.2.2.2.2 bt161.1 bt161.2.1 bt161.2.2.1 bt161.2.2.2.1 bt161.2.2.2.2).bind fun t170 => (ferrulelaw04_PrecEnds.j1 kj4 t115 bt117.2.2.2.2.2 (!t170) a0_0 a0_1 a0_2 l0_3 l0_4 a1_0 a1_1 a1_2 l1_3 l1_4 t106 t107 t108 t109 t112 bt117.1 bt117.2.1 bt117.2.2.1 bt117.2.2.2.1 bt117.2.2.2.2.1)))) else (ferrulelaw04_PrecEnds.j1 kj4 t115 bt117.2.2.2.2.2 true a0_0 a0_1 a0_2 l0_3 l0_4 a1_0 a1_1 a1_2 l1_3 l1_4 t106 t107 t108 t109 t112 bt117.1 bt117.2.1 bt117.2.2.1 bt117.2.2.2.1 bt117.2.2.2.2.1))) else (ferrulelaw04_PrecEnds.j1 kj4 t115 bt117.2.2.2.2.2 true a0_0 a0_1 a0_2 l0_3 l0_4 a1_0 a1_1 a1_2 l1_3 l1_4 t106 t107 t108 t109 t112 bt117.1 bt117.2.1 bt117.2.2.1 bt117.2.2.2.1 bt117.2.2.2.2.1)))))))) = some r := H
     have A21 := Aside0.mk A210
     clear A210
     replace H := Option.bind_eq_some_iff.mp H
     obtain ⟨⟨t117, t118, t119, t120, t123, t126⟩, A220, H⟩ := H
     replace H : ((ferruleref04_Caret.f a0_0 a0_1 a0_2 l0_3 l0_4).bind fun bt128 => ((ferruleref04_Tilde.f a0_0 a0_1 a0_2 l0_3 l0_4).bind fun bt139 => (if (t115 != bt128.2.2.2.2.2) = true then (ferrulelaw04_PrecEnds.j1 kj4 t115 t126 true a0_0 a0_1 a0_2 l0_3 l0_4 a1_0 a1_1 a1_2 l1_3 l1_4 t106 t107 t108 t109 t112 t117 t118 t119 t120 t123) else (if (t126 != bt139.2.2.2.2.2) = true then (ferrulelaw04_PrecEnds.j1 kj4 t115 t126 true a0_0 a0_1 a0_2 l0_3 l0_4 a1_0 a1_1 a1_2 l1_3 l1_4 t106 t107 t108 t109 t112 t117 t118 t119 t120 t123) else ((ferruleref03_Same.f kj4 t106 t107 t108 t109 t112 bt128.1 bt128.2.1 bt128.2.2.1 bt128.2.2.2.1 bt128.2.2.2.2.1).bind fun t150 => (if t150 = true then ((ferruleref03_Same.f kj4 t117 t118 t119 t120 t123 bt139.1 bt139.2.1 bt139.2.2.1 bt139.2.2.2.1 bt139.2.2.2.2.1).bind fun t151 => (if t151 = true then ((prec_First.f a0_0 a0_1 a0_2).bind fun bt152 => ((ferruleref04_First.f a0_0 a0_1 a0_2).bind fun bt161 => ((ferruleref03_Same.f kj4 bt152.1 bt152.2.1 bt152.2.2.1 bt152.2.2.2.1 bt152.2.2.2.2 bt161.1 bt161.2.1 bt161.2.2.1 bt161.2.2.2.1 bt161.2.2.2.2).bind fun t170 => (ferrulelaw04_PrecEnds.j1 kj4 t115 t126 (!t170) a0_0 a0_1 a0_2 l0_3 l0_4 a1_0 a1_1 a1_2 l1_3 l1_4 t106 t107 t108 t109 t112 t117 t118 t119 t120 t123)))) else (ferrulelaw04_PrecEnds.j1 kj4 t115 t126 true a0_0 a0_1 a0_2 l0_3 l0_4 a1_0 a1_1 a1_2 l1_3 l1_4 t106 t107 t108 t109 t112 t117 t118 t119 t120 t123))) else (ferrulelaw04_PrecEnds.j1 kj4 t115 t126 true a0_0 a0_1 a0_2 l0_3 l0_4 a1_0 a1_1 a1_2 l1_3 l1_4 t106 t107 t108 t109 t112 t117 t118 t119 t120 t123))))))) = some r := H
     have A22 := Aside0.mk A220
     clear A220
     replace H := Option.bind_eq_some_iff.mp H
     obtain ⟨⟨t128, t129, t130, t131, t134, t137⟩, A230, H⟩ := H
     replace H : ((ferruleref04_Tilde.f a0_0 a0_1 a0_2 l0_3 l0_4).bind fun bt139 => (if (t115 != t137) = true then (ferrulelaw04_PrecEnds.j1 kj4 t115 t126 true a0_0 a0_1 a0_2 l0_3 l0_4 a1_0 a1_1 a1_2 l1_3 l1_4 t106 t107 t108 t109 t112 t117 t118 t119 t120 t123) else (if (t126 != bt139.2.2.2.2.2) = true then (ferrulelaw04_PrecEnds.j1 kj4 t115 t126 true a0_0 a0_1 a0_2 l0_3 l0_4 a1_0 a1_1 a1_2 l1_3 l1_4 t106 t107 t108 t109 t112 t117 t118 t119 t120 t123) else ((ferruleref03_Same.f kj4 t106 t107 t108 t109 t112 t128 t129 t130 t131 t134).bind fun t150 => (if t150 = true then ((ferruleref03_Same.f kj4 t117 t118 t119 t120 t123 bt139.1 bt139.2.1 bt139.2.2.1 bt139.2.2.2.1 bt139.2.2.2.2.1).bind fun t151 => (if t151 = true then ((prec_First.f a0_0 a0_1 a0_2).bind fun bt152 => ((ferruleref04_First.f a0_0 a0_1 a0_2).bind fun bt161 => ((ferruleref03_Same.f kj4 bt152.1 bt152.2.1 bt152.2.2.1 bt152.2.2.2.1 bt152.2.2.2.2 bt161.1 bt161.2.1 bt161.2.2.1 bt161.2.2.2.1 bt161.2.2.2.2).bind fun t170 => (ferrulelaw04_PrecEnds.j1 kj4 t115 t126 (!t170) a0_0 a0_1 a0_2 l0_3 l0_4 a1_0 a1_1 a1_2 l1_3 l1_4 t106 t107 t108 t109 t112 t117 t118 t119 t120 t123)))) else (ferrulelaw04_PrecEnds.j1 kj4 t115 t126 true a0_0 a0_1 a0_2 l0_3 l0_4 a1_0 a1_1 a1_2 l1_3 l1_4 t106 t107 t108 t109 t112 t117 t118 t119 t120 t123))) else (ferrulelaw04_PrecEnds.j1 kj4 t115 t126 true a0_0 a0_1 a0_2 l0_3 l0_4 a1_0 a1_1 a1_2 l1_3 l1_4 t106 t107 t108 t109 t112 t117 t118 t119 t120 t123)))))) = some r := H
     have A23 := Aside0.mk A230
     clear A230
     replace H := Option.bind_eq_some_iff.mp H
     obtain ⟨⟨t139, t140, t141, t142, t145, t148⟩, A240, H⟩ := H
     replace H : (if (t115 != t137) = true then (ferrulelaw04_PrecEnds.j1 kj4 t115 t126 true a0_0 a0_1 a0_2 l0_3 l0_4 a1_0 a1_1 a1_2 l1_3 l1_4 t106 t107 t108 t109 t112 t117 t118 t119 t120 t123) else (if (t126 != t148) = true then (ferrulelaw04_PrecEnds.j1 kj4 t115 t126 true a0_0 a0_1 a0_2 l0_3 l0_4 a1_0 a1_1 a1_2 l1_3 l1_4 t106 t107 t108 t109 t112 t117 t118 t119 t120 t123) else ((ferruleref03_Same.f kj4 t106 t107 t108 t109 t112 t128 t129 t130 t131 t134).bind fun t150 => (if t150 = true then ((ferruleref03_Same.f kj4 t117 t118 t119 t120 t123 t139 t140 t141 t142 t145).bind fun t151 => (if t151 = true then ((prec_First.f a0_0 a0_1 a0_2).bind fun bt152 => ((ferruleref04_First.f a0_0 a0_1 a0_2).bind fun bt161 => ((ferruleref03_Same.f kj4 bt152.1 bt152.2.1 bt152.2.2.1 bt152.2.2.2.1 bt152.2.2.2.2 bt161.1 bt161.2.1 bt161.2.2.1 bt161.2.2.2.1 bt161.2.2.2.2).bind fun t170 => (ferrulelaw04_PrecEnds.j1 kj4 t115 t126 (!t170) a0_0 a0_1 a0_2 l0_3 l0_4 a1_0 a1_1 a1_2 l1_3 l1_4 t106 t107 t108 t109 t112 t117 t118 t119 t120 t123)))) else (ferrulelaw04_PrecEnds.j1 kj4 t115 t126 true a0_0 a0_1 a0_2 l0_3 l0_4 a1_0 a1_1 a1_2 l1_3 l1_4 t106 t107 t108 t109 t112 t117 t118 t119 t120 t123))) else (ferrulelaw04_PrecEnds.j1 kj4 t115 t126 true a0_0 a0_1 a0_2 l0_3 l0_4 a1_0 a1_1 a1_2 l1_3 l1_4 t106 t107 t108 t109 t112 t117 t118 t119 t120 t123))))) = some r := H
     have A24 := Aside0.mk A240
     clear A240
     have HC25 := Aside0.mk H
     clear H
     have hnb26 := NB101_102.out
     have hnc26 := NB102_101.out
     have hcz27_0 : wc.cell? ⟨gb101, 0, none⟩ = some (.int .u64 a0_0) := (blk_cell BK101.out 0).trans rfl
     have hcz27_1 : wc.cell? ⟨gb101, 1, none⟩ = some (.int .u64 a0_1) := (blk_cell BK101.out 1).trans rfl
     have hcz27_2 : wc.cell? ⟨gb101, 2, none⟩ = some (.int .u64 a0_2) := (blk_cell BK101.out 2).trans rfl
     have hcz27_3 : wc.cell? ⟨gb101, 3, none⟩ = some (.slice A0_3 l0_3.length c0_3) := (blk_cell BK101.out 3).trans rfl
     have hcz27_4 : wc.cell? ⟨gb101, 4, none⟩ = some (.slice A0_4 l0_4.length c0_4) := (blk_cell BK101.out 4).trans rfl
     have hfz27_0 := blk_frozen BK101.out 0
     have hfz27_1 := blk_frozen BK101.out 1
     have hfz27_2 := blk_frozen BK101.out 2
     have hfz27_3 := blk_frozen BK101.out 3
     have hfz27_4 := blk_frozen BK101.out 4
     go_upto_region 9 with (first | ((with_reducible refine gate_callee (f := 23) rfl ?_); refine goesL_ (some 25) rfl rfl Tryd.func23 (by kernel_rfl) rfl #[.agg #[.int .u64 a0_0, .int .u64 a0_1, .int .u64 a0_2, .slice A0_3 l0_3.length c0_3, .slice A0_4 l0_4.length c0_4]] rfl bM ?_; (with_reducible refine (prec_Caret.calls kj4 a0_0 a0_1 a0_2 _ _ l0_3 _ _ l0_4 t106 t107 t108 t109 t112 t115 _ ?side1 ?side2 ?side3 ?side4 A21.out).mono ?_); (case side1 => exact sW (Kd.C_below HR0_3.out HB.out)); (case side2 => exact HC0_3.out); (case side3 => exact sW (Kd.C_below HR0_4.out HB.out)); (case side4 => exact HC0_4.out); rintro e w28 ⟨v110, v113, rfl, ho0, ho1, hb⟩; refine ⟨_, rfl, ?_⟩; have HO111 := aL ho0 HB; have HO114 := aL ho1 HB; replace BK101 := aK BK101 hb; replace BK102 := aK BK102 hb; replace HB := aB HB hb; (try clear hb); (try clear hb2); (try clear hk); (try clear hi); (try clear ho0); (try clear ho1)) | ((with_reducible refine gate_dst (N := 5) rfl ?_); refine box_event ?hg (N := 5) ?hd (cs := #[.int .u64 0, .int .u64 0, .int .u64 0, .slice none 0 0, .slice none 0 0]) (t := 40) ?hr ?_; (case hd => rfl); (case hg => rfl); (case hr => first | (go_simp; done) | (go_simp; rfl)); intro gb116 hg w29 hbox hb; replace HO111 := aR HO111 hb; replace HO114 := aR HO114 hb; have BK116 := Aside0.mk hbox; have GW116 := Aside0.mk ((by rw [hg]; exact (below_size bB) : w.heap.size ≤ gb116)); have GE116 := Aside0.mk ((by rw [hg]; exact (below_size bB) : w.heap.size ≤ gb116)); replace HB := aB HB hb; have NB101_116 := Aside0.mk ((by rw [hg]; exact Nat.ne_of_lt (blk_lt (g := gb101) (o := .cells #[.int .u64 a0_0, .int .u64 a0_1, .int .u64 a0_2, .slice A0_3 l0_3.length c0_3, .slice A0_4 l0_4.length c0_4] 40 (0, 0)) (aKw BK101)) : gb101 ≠ gb116)); have NB116_101 := Aside0.mk ((by rw [hg]; exact Nat.ne_of_gt (blk_lt (g := gb101) (o := .cells #[.int .u64 a0_0, .int .u64 a0_1, .int .u64 a0_2, .slice A0_3 l0_3.length c0_3, .slice A0_4 l0_4.length c0_4] 40 (0, 0)) (aKw BK101)) : gb116 ≠ gb101)); replace BK101 := aK BK101 hb; have NB102_116 := Aside0.mk ((by rw [hg]; exact Nat.ne_of_lt (blk_lt (g := gb102) (o := .cells #[.int .u64 a1_0, .int .u64 a1_1, .int .u64 a1_2, .slice A1_3 l1_3.length c1_3, .slice A1_4 l1_4.length c1_4] 40 (0, 0)) (aKw BK102)) : gb102 ≠ gb116)); have NB116_102 := Aside0.mk ((by rw [hg]; exact Nat.ne_of_gt (blk_lt (g := gb102) (o := .cells #[.int .u64 a1_0, .int .u64 a1_1, .int .u64 a1_2, .slice A1_3 l1_3.length c1_3, .slice A1_4 l1_4.length c1_4] 40 (0, 0)) (aKw BK102)) : gb116 ≠ gb102)); replace BK102 := aK BK102 hb; clear hb hbox hg; have hnb30 := NB116_101.out; have hnc30 := NB101_116.out; have hnb31 := NB116_102.out; have hnc31 := NB102_116.out; have hcz32_0 : w29.cell? ⟨gb116, 0, none⟩ = some (.int .u64 0) := (blk_cell BK116.out 0).trans rfl; have hcz32_1 : w29.cell? ⟨gb116, 1, none⟩ = some (.int .u64 0) := (blk_cell BK116.out 1).trans rfl; have hcz32_2 : w29.cell? ⟨gb116, 2, none⟩ = some (.int .u64 0) := (blk_cell BK116.out 2).trans rfl; have hcz32_3 : w29.cell? ⟨gb116, 3, none⟩ = some (.slice none 0 0) := (blk_cell BK116.out 3).trans rfl; have hcz32_4 : w29.cell? ⟨gb116, 4, none⟩ = some (.slice none 0 0) := (blk_cell BK116.out 4).trans rfl; have hfz32_0 := blk_frozen BK116.out 0; have hfz32_1 := blk_frozen BK116.out 1; have hfz32_2 := blk_frozen BK116.out 2; have hfz32_3 := blk_frozen BK116.out 3; have hfz32_4 := blk_frozen BK116.out 4; obtain ⟨Ao33, co33, eo33⟩ := Kd.R_slice HO111.out; subst eo33; obtain ⟨Ao34, co34, eo34⟩ := Kd.R_slice HO114.out; subst eo34; have hcz35_0 : w29.cell? ⟨gb101, 0, none⟩ = some (.int .u64 a0_0) := (blk_cell BK101.out 0).trans rfl; have hcz35_1 : w29.cell? ⟨gb101, 1, none⟩ = some (.int .u64 a0_1) := (blk_cell BK101.out 1).trans rfl; have hcz35_2 : w29.cell? ⟨gb101, 2, none⟩ = some (.int .u64 a0_2) := (blk_cell BK101.out 2).trans rfl; have hcz35_3 : w29.cell? ⟨gb101, 3, none⟩ = some (.slice A0_3 l0_3.length c0_3) := (blk_cell BK101.out 3).trans rfl; have hcz35_4 : w29.cell? ⟨gb101, 4, none⟩ = some (.slice A0_4 l0_4.length c0_4) := (blk_cell BK101.out 4).trans rfl; have hfz35_0 := blk_frozen BK101.out 0; have hfz35_1 := blk_frozen BK101.out 1; have hfz35_2 := blk_frozen BK101.out 2; have hfz35_3 := blk_frozen BK101.out 3; have hfz35_4 := blk_frozen BK101.out 4) | ((with_reducible refine gate_callee (f := 24) rfl ?_); refine goesL_ (some 30) rfl rfl Tryd.func24 (by kernel_rfl) rfl #[.agg #[.int .u64 a0_0, .int .u64 a0_1, .int .u64 a0_2, .slice A0_3 l0_3.length c0_3, .slice A0_4 l0_4.length c0_4]] rfl bM ?_; (with_reducible refine (prec_Tilde.calls kj4 a0_0 a0_1 a0_2 _ _ l0_3 _ _ l0_4 t117 t118 t119 t120 t123 t126 _ ?side1 ?side2 ?side3 ?side4 A22.out).mono ?_); (case side1 => exact Kd.C_below HR0_3.out bB); (case side2 => exact HC0_3.out); (case side3 => exact Kd.C_below HR0_4.out bB); (case side4 => exact HC0_4.out); rintro e w36 ⟨v121, v124, rfl, ho0, ho1, hb⟩; refine ⟨_, rfl, ?_⟩; have HO122 := Aside0.mk (Kd.R_lower (Kd.R_new' (Kd.R_new' ho0 (aT HO111 BK116)) (aT HO114 BK116)) (below_size bB)); have HO125 := Aside0.mk (Kd.R_lower (Kd.R_new' (Kd.R_new' ho1 (aT HO111 BK116)) (aT HO114 BK116)) (below_size bB)); replace HO111 := Aside0.mk (Kd.R_mono (Kd.R_told (Kd.R_told (Kd.R_old (aS HO111 BK116) hb) (Kd.R_base ho0)) (Kd.R_base ho1)) (fun _ h_ => h_.1)); replace HO114 := Aside0.mk (Kd.R_mono (Kd.R_told (Kd.R_told (Kd.R_old (aS HO114 BK116) hb) (Kd.R_base ho0)) (Kd.R_base ho1)) (fun _ h_ => h_.1)); replace BK101 := Aside0.mk (blk_below (g := gb101) (o := .cells #[.int .u64 a0_0, .int .u64 a0_1, .int .u64 a0_2, .slice A0_3 l0_3.length c0_3, .slice A0_4 l0_4.length c0_4] 40 (0, 0)) (aKf BK101) hb); replace BK102 := Aside0.mk (blk_below (g := gb102) (o := .cells #[.int .u64 a1_0, .int .u64 a1_1, .int .u64 a1_2, .slice A1_3 l1_3.length c1_3, .slice A1_4 l1_4.length c1_4] 40 (0, 0)) (aKf BK102) hb); replace BK116 := Aside0.mk (blk_below (g := gb116) (o := .cells #[.int .u64 t106, .int .u64 t107, .int .u64 t108, .slice Ao33 t109.length co33, .slice Ao34 t112.length co34] 40 (0, 0)) (by (with_reducible repeat (first | refine blk_drewN ?_ _ | refine blk_drew ?_ | refine blk_alloc ?_ _)); refine blk_put (cs := #[.int .u64 t106, .int .u64 t107, .int .u64 t108, .slice Ao33 t109.length co33, .slice none 0 0]) ?_ 4 _ rfl; (with_reducible repeat (first | refine blk_drewN ?_ _ | refine blk_drew ?_ | refine blk_alloc ?_ _)); refine blk_put (cs := #[.int .u64 t106, .int .u64 t107, .int .u64 t108, .slice none 0 0, .slice none 0 0]) ?_ 3 _ rfl; (with_reducible repeat (first | refine blk_drewN ?_ _ | refine blk_drew ?_ | refine blk_alloc ?_ _)); refine blk_put (cs := #[.int .u64 t106, .int .u64 t107, .int .u64 0, .slice none 0 0, .slice none 0 0]) ?_ 2 _ rfl; (with_reducible repeat (first | refine blk_drewN ?_ _ | refine blk_drew ?_ | refine blk_alloc ?_ _)); refine blk_put (cs := #[.int .u64 t106, .int .u64 0, .int .u64 0, .slice none 0 0, .slice none 0 0]) ?_ 1 _ rfl; (with_reducible repeat (first | refine blk_drewN ?_ _ | refine blk_drew ?_ | refine blk_alloc ?_ _)); refine blk_put (cs := #[.int .u64 0, .int .u64 0, .int .u64 0, .slice none 0 0, .slice none 0 0]) ?_ 0 _ rfl; (with_reducible repeat (first | refine blk_drewN ?_ _ | refine blk_drew ?_ | refine blk_alloc ?_ _)); exact BK116.out) hb); replace HB := aB HB hb; (try clear hb); (try clear hb2); (try clear hk); (try clear hi); (try clear ho0); (try clear ho1)) | ((with_reducible refine gate_dst (N := 7) rfl ?_); refine box_event ?hg (N := 7) ?hd (cs := #[.int .u64 0, .int .u64 0, .int .u64 0, .slice none 0 0, .slice none 0 0]) (t := 40) ?hr ?_; (case hd => rfl); (case hg => rfl); (case hr => first | (go_simp; done) | (go_simp; rfl)); intro gb127 hg w37 hbox hb; replace HO111 := aR HO111 hb; replace HO114 := aR HO114 hb; replace HO122 := aR HO122 hb; replace HO125 := aR HO125 hb; have BK127 := Aside0.mk hbox; have GW127 := Aside0.mk ((by rw [hg]; exact (below_size bB) : w.heap.size ≤ gb127)); have GE127 := Aside0.mk ((by rw [hg]; exact (below_size bB) : w.heap.size ≤ gb127)); replace HB := aB HB hb; have NB101_127 := Aside0.mk ((by rw [hg]; exact Nat.ne_of_lt (blk_lt (g := gb101) (o := .cells #[.int .u64 a0_0, .int .u64 a0_1, .int .u64 a0_2, .slice A0_3 l0_3.length c0_3, .slice A0_4 l0_4.length c0_4] 40 (0, 0)) (aKw BK101)) : gb101 ≠ gb127)); have NB127_101 := Aside0.mk ((by rw [hg]; exact Nat.ne_of_gt (blk_lt (g := gb101) (o := .cells #[.int .u64 a0_0, .int .u64 a0_1, .int .u64 a0_2, .slice A0_3 l0_3.length c0_3, .slice A0_4 l0_4.length c0_4] 40 (0, 0)) (aKw BK101)) : gb127 ≠ gb101)); replace BK101 := aK BK101 hb; have NB102_127 := Aside0.mk ((by rw [hg]; exact Nat.ne_of_lt (blk_lt (g := gb102) (o := .cells #[.int .u64 a1_0, .int .u64 a1_1, .int .u64 a1_2, .slice A1_3 l1_3.length c1_3, .slice A1_4 l1_4.length c1_4] 40 (0, 0)) (aKw BK102)) : gb102 ≠ gb127)); have NB127_102 := Aside0.mk ((by rw [hg]; exact Nat.ne_of_gt (blk_lt (g := gb102) (o := .cells #[.int .u64 a1_0, .int .u64 a1_1, .int .u64 a1_2, .slice A1_3 l1_3.length c1_3, .slice A1_4 l1_4.length c1_4] 40 (0, 0)) (aKw BK102)) : gb127 ≠ gb102)); replace BK102 := aK BK102 hb; have NB116_127 := Aside0.mk ((by rw [hg]; exact Nat.ne_of_lt (blk_lt (g := gb116) (o := .cells #[.int .u64 t106, .int .u64 t107, .int .u64 t108, .slice Ao33 t109.length co33, .slice Ao34 t112.length co34] 40 (0, 0)) (aKw BK116)) : gb116 ≠ gb127)); have NB127_116 := Aside0.mk ((by rw [hg]; exact Nat.ne_of_gt (blk_lt (g := gb116) (o := .cells #[.int .u64 t106, .int .u64 t107, .int .u64 t108, .slice Ao33 t109.length co33, .slice Ao34 t112.length co34] 40 (0, 0)) (aKw BK116)) : gb127 ≠ gb116)); replace BK116 := aK BK116 hb; clear hb hbox hg; have hnb38 := NB127_101.out; have hnc38 := NB101_127.out; have hnb39 := NB127_102.out; have hnc39 := NB102_127.out; have hnb40 := NB127_116.out; have hnc40 := NB116_127.out; have hcz41_0 : w37.cell? ⟨gb127, 0, none⟩ = some (.int .u64 0) := (blk_cell BK127.out 0).trans rfl; have hcz41_1 : w37.cell? ⟨gb127, 1, none⟩ = some (.int .u64 0) := (blk_cell BK127.out 1).trans rfl; have hcz41_2 : w37.cell? ⟨gb127, 2, none⟩ = some (.int .u64 0) := (blk_cell BK127.out 2).trans rfl; have hcz41_3 : w37.cell? ⟨gb127, 3, none⟩ = some (.slice none 0 0) := (blk_cell BK127.out 3).trans rfl; have hcz41_4 : w37.cell? ⟨gb127, 4, none⟩ = some (.slice none 0 0) := (blk_cell BK127.out 4).trans rfl; have hfz41_0 := blk_frozen BK127.out 0; have hfz41_1 := blk_frozen BK127.out 1; have hfz41_2 := blk_frozen BK127.out 2; have hfz41_3 := blk_frozen BK127.out 3; have hfz41_4 := blk_frozen BK127.out 4; obtain ⟨Ao42, co42, eo42⟩ := Kd.R_slice HO122.out; subst eo42; obtain ⟨Ao43, co43, eo43⟩ := Kd.R_slice HO125.out; subst eo43; have hcz44_0 : w37.cell? ⟨gb101, 0, none⟩ = some (.int .u64 a0_0) := (blk_cell BK101.out 0).trans rfl; have hcz44_1 : w37.cell? ⟨gb101, 1, none⟩ = some (.int .u64 a0_1) := (blk_cell BK101.out 1).trans rfl; have hcz44_2 : w37.cell? ⟨gb101, 2, none⟩ = some (.int .u64 a0_2) := (blk_cell BK101.out 2).trans rfl; have hcz44_3 : w37.cell? ⟨gb101, 3, none⟩ = some (.slice A0_3 l0_3.length c0_3) := (blk_cell BK101.out 3).trans rfl; have hcz44_4 : w37.cell? ⟨gb101, 4, none⟩ = some (.slice A0_4 l0_4.length c0_4) := (blk_cell BK101.out 4).trans rfl; have hfz44_0 := blk_frozen BK101.out 0; have hfz44_1 := blk_frozen BK101.out 1; have hfz44_2 := blk_frozen BK101.out 2; have hfz44_3 := blk_frozen BK101.out 3; have hfz44_4 := blk_frozen BK101.out 4) | ((with_reducible refine gate_callee (f := 25) rfl ?_); refine goesL_ (some 35) rfl rfl Tryd.func25 (by kernel_rfl) rfl #[.agg #[.int .u64 a0_0, .int .u64 a0_1, .int .u64 a0_2, .slice A0_3 l0_3.length c0_3, .slice A0_4 l0_4.length c0_4]] rfl bM ?_; (with_reducible refine (ferruleref04_Caret.calls a0_0 a0_1 a0_2 _ _ l0_3 _ _ l0_4 t128 t129 t130 t131 t134 t137 _ ?side1 ?side2 ?side3 ?side4 A23.out).mono ?_); (case side1 => exact Kd.C_below HR0_3.out bB); (case side2 => exact HC0_3.out); (case side3 => exact Kd.C_below HR0_4.out bB); (case side4 => exact HC0_4.out); rintro e w45 ⟨v132, v135, rfl, ho0, ho1, hb⟩; refine ⟨_, rfl, ?_⟩; have HO133 := Aside0.mk (Kd.R_lower (Kd.R_new' (Kd.R_new' (Kd.R_new' (Kd.R_new' ho0 (aT HO111 BK127)) (aT HO114 BK127)) (aT HO122 BK127)) (aT HO125 BK127)) (below_size bB)); have HO136 := Aside0.mk (Kd.R_lower (Kd.R_new' (Kd.R_new' (Kd.R_new' (Kd.R_new' ho1 (aT HO111 BK127)) (aT HO114 BK127)) (aT HO122 BK127)) (aT HO125 BK127)) (below_size bB)); replace HO111 := Aside0.mk (Kd.R_mono (Kd.R_told (Kd.R_told (Kd.R_old (aS HO111 BK127) hb) (Kd.R_base ho0)) (Kd.R_base ho1)) (fun _ h_ => h_.1)); replace HO114 := Aside0.mk (Kd.R_mono (Kd.R_told (Kd.R_told (Kd.R_old (aS HO114 BK127) hb) (Kd.R_base ho0)) (Kd.R_base ho1)) (fun _ h_ => h_.1)); replace HO122 := Aside0.mk (Kd.R_mono (Kd.R_told (Kd.R_told (Kd.R_old (aS HO122 BK127) hb) (Kd.R_base ho0)) (Kd.R_base ho1)) (fun _ h_ => h_.1)); replace HO125 := Aside0.mk (Kd.R_mono (Kd.R_told (Kd.R_told (Kd.R_old (aS HO125 BK127) hb) (Kd.R_base ho0)) (Kd.R_base ho1)) (fun _ h_ => h_.1)); replace BK101 := Aside0.mk (blk_below (g := gb101) (o := .cells #[.int .u64 a0_0, .int .u64 a0_1, .int .u64 a0_2, .slice A0_3 l0_3.length c0_3, .slice A0_4 l0_4.length c0_4] 40 (0, 0)) (aKf BK101) hb); replace BK102 := Aside0.mk (blk_below (g := gb102) (o := .cells #[.int .u64 a1_0, .int .u64 a1_1, .int .u64 a1_2, .slice A1_3 l1_3.length c1_3, .slice A1_4 l1_4.length c1_4] 40 (0, 0)) (aKf BK102) hb); replace BK116 := Aside0.mk (blk_below (g := gb116) (o := .cells #[.int .u64 t106, .int .u64 t107, .int .u64 t108, .slice Ao33 t109.length co33, .slice Ao34 t112.length co34] 40 (0, 0)) (aKf BK116) hb); replace BK127 := Aside0.mk (blk_below (g := gb127) (o := .cells #[.int .u64 t117, .int .u64 t118, .int .u64 t119, .slice Ao42 t120.length co42, .slice Ao43 t123.length co43] 40 (0, 0)) (by (with_reducible repeat (first | refine blk_drewN ?_ _ | refine blk_drew ?_ | refine blk_alloc ?_ _)); refine blk_put (cs := #[.int .u64 t117, .int .u64 t118, .int .u64 t119, .slice Ao42 t120.length co42, .slice none 0 0]) ?_ 4 _ rfl; (with_reducible repeat (first | refine blk_drewN ?_ _ | refine blk_drew ?_ | refine blk_alloc ?_ _)); refine blk_put (cs := #[.int .u64 t117, .int .u64 t118, .int .u64 t119, .slice none 0 0, .slice none 0 0]) ?_ 3 _ rfl; (with_reducible repeat (first | refine blk_drewN ?_ _ | refine blk_drew ?_ | refine blk_alloc ?_ _)); refine blk_put (cs := #[.int .u64 t117, .int .u64 t118, .int .u64 0, .slice none 0 0, .slice none 0 0]) ?_ 2 _ rfl; (with_reducible repeat (first | refine blk_drewN ?_ _ | refine blk_drew ?_ | refine blk_alloc ?_ _)); refine blk_put (cs := #[.int .u64 t117, .int .u64 0, .int .u64 0, .slice none 0 0, .slice none 0 0]) ?_ 1 _ rfl; (with_reducible repeat (first | refine blk_drewN ?_ _ | refine blk_drew ?_ | refine blk_alloc ?_ _)); refine blk_put (cs := #[.int .u64 0, .int .u64 0, .int .u64 0, .slice none 0 0, .slice none 0 0]) ?_ 0 _ rfl; (with_reducible repeat (first | refine blk_drewN ?_ _ | refine blk_drew ?_ | refine blk_alloc ?_ _)); exact BK127.out) hb); replace HB := aB HB hb; (try clear hb); (try clear hb2); (try clear hk); (try clear hi); (try clear ho0); (try clear ho1)) | ((with_reducible refine gate_dst (N := 9) rfl ?_); refine box_event ?hg (N := 9) ?hd (cs := #[.int .u64 0, .int .u64 0, .int .u64 0, .slice none 0 0, .slice none 0 0]) (t := 40) ?hr ?_; (case hd => rfl); (case hg => rfl); (case hr => first | (go_simp; done) | (go_simp; rfl)); intro gb138 hg w46 hbox hb; replace HO111 := aR HO111 hb; replace HO114 := aR HO114 hb; replace HO122 := aR HO122 hb; replace HO125 := aR HO125 hb; replace HO133 := aR HO133 hb; replace HO136 := aR HO136 hb; have BK138 := Aside0.mk hbox; have GW138 := Aside0.mk ((by rw [hg]; exact (below_size bB) : w.heap.size ≤ gb138)); have GE138 := Aside0.mk ((by rw [hg]; exact (below_size bB) : w.heap.size ≤ gb138)); replace HB := aB HB hb; have NB101_138 := Aside0.mk ((by rw [hg]; exact Nat.ne_of_lt (blk_lt (g := gb101) (o := .cells #[.int .u64 a0_0, .int .u64 a0_1, .int .u64 a0_2, .slice A0_3 l0_3.length c0_3, .slice A0_4 l0_4.length c0_4] 40 (0, 0)) (aKw BK101)) : gb101 ≠ gb138)); have NB138_101 := Aside0.mk ((by rw [hg]; exact Nat.ne_of_gt (blk_lt (g := gb101) (o := .cells #[.int .u64 a0_0, .int .u64 a0_1, .int .u64 a0_2, .slice A0_3 l0_3.length c0_3, .slice A0_4 l0_4.length c0_4] 40 (0, 0)) (aKw BK101)) : gb138 ≠ gb101)); replace BK101 := aK BK101 hb; have NB102_138 := Aside0.mk ((by rw [hg]; exact Nat.ne_of_lt (blk_lt (g := gb102) (o := .cells #[.int .u64 a1_0, .int .u64 a1_1, .int .u64 a1_2, .slice A1_3 l1_3.length c1_3, .slice A1_4 l1_4.length c1_4] 40 (0, 0)) (aKw BK102)) : gb102 ≠ gb138)); have NB138_102 := Aside0.mk ((by rw [hg]; exact Nat.ne_of_gt (blk_lt (g := gb102) (o := .cells #[.int .u64 a1_0, .int .u64 a1_1, .int .u64 a1_2, .slice A1_3 l1_3.length c1_3, .slice A1_4 l1_4.length c1_4] 40 (0, 0)) (aKw BK102)) : gb138 ≠ gb102)); replace BK102 := aK BK102 hb; have NB116_138 := Aside0.mk ((by rw [hg]; exact Nat.ne_of_lt (blk_lt (g := gb116) (o := .cells #[.int .u64 t106, .int .u64 t107, .int .u64 t108, .slice Ao33 t109.length co33, .slice Ao34 t112.length co34] 40 (0, 0)) (aKw BK116)) : gb116 ≠ gb138)); have NB138_116 := Aside0.mk ((by rw [hg]; exact Nat.ne_of_gt (blk_lt (g := gb116) (o := .cells #[.int .u64 t106, .int .u64 t107, .int .u64 t108, .slice Ao33 t109.length co33, .slice Ao34 t112.length co34] 40 (0, 0)) (aKw BK116)) : gb138 ≠ gb116)); replace BK116 := aK BK116 hb; have NB127_138 := Aside0.mk ((by rw [hg]; exact Nat.ne_of_lt (blk_lt (g := gb127) (o := .cells #[.int .u64 t117, .int .u64 t118, .int .u64 t119, .slice Ao42 t120.length co42, .slice Ao43 t123.length co43] 40 (0, 0)) (aKw BK127)) : gb127 ≠ gb138)); have NB138_127 := Aside0.mk ((by rw [hg]; exact Nat.ne_of_gt (blk_lt (g := gb127) (o := .cells #[.int .u64 t117, .int .u64 t118, .int .u64 t119, .slice Ao42 t120.length co42, .slice Ao43 t123.length co43] 40 (0, 0)) (aKw BK127)) : gb138 ≠ gb127)); replace BK127 := aK BK127 hb; clear hb hbox hg; have hnb47 := NB138_101.out; have hnc47 := NB101_138.out; have hnb48 := NB138_102.out; have hnc48 := NB102_138.out; have hnb49 := NB138_116.out; have hnc49 := NB116_138.out; have hnb50 := NB138_127.out; have hnc50 := NB127_138.out; have hcz51_0 : w46.cell? ⟨gb138, 0, none⟩ = some (.int .u64 0) := (blk_cell BK138.out 0).trans rfl; have hcz51_1 : w46.cell? ⟨gb138, 1, none⟩ = some (.int .u64 0) := (blk_cell BK138.out 1).trans rfl; have hcz51_2 : w46.cell? ⟨gb138, 2, none⟩ = some (.int .u64 0) := (blk_cell BK138.out 2).trans rfl; have hcz51_3 : w46.cell? ⟨gb138, 3, none⟩ = some (.slice none 0 0) := (blk_cell BK138.out 3).trans rfl; have hcz51_4 : w46.cell? ⟨gb138, 4, none⟩ = some (.slice none 0 0) := (blk_cell BK138.out 4).trans rfl; have hfz51_0 := blk_frozen BK138.out 0; have hfz51_1 := blk_frozen BK138.out 1; have hfz51_2 := blk_frozen BK138.out 2; have hfz51_3 := blk_frozen BK138.out 3; have hfz51_4 := blk_frozen BK138.out 4; obtain ⟨Ao52, co52, eo52⟩ := Kd.R_slice HO133.out; subst eo52; obtain ⟨Ao53, co53, eo53⟩ := Kd.R_slice HO136.out; subst eo53; have hcz54_0 : w46.cell? ⟨gb101, 0, none⟩ = some (.int .u64 a0_0) := (blk_cell BK101.out 0).trans rfl; have hcz54_1 : w46.cell? ⟨gb101, 1, none⟩ = some (.int .u64 a0_1) := (blk_cell BK101.out 1).trans rfl; have hcz54_2 : w46.cell? ⟨gb101, 2, none⟩ = some (.int .u64 a0_2) := (blk_cell BK101.out 2).trans rfl; have hcz54_3 : w46.cell? ⟨gb101, 3, none⟩ = some (.slice A0_3 l0_3.length c0_3) := (blk_cell BK101.out 3).trans rfl; have hcz54_4 : w46.cell? ⟨gb101, 4, none⟩ = some (.slice A0_4 l0_4.length c0_4) := (blk_cell BK101.out 4).trans rfl; have hfz54_0 := blk_frozen BK101.out 0; have hfz54_1 := blk_frozen BK101.out 1; have hfz54_2 := blk_frozen BK101.out 2; have hfz54_3 := blk_frozen BK101.out 3; have hfz54_4 := blk_frozen BK101.out 4) | ((with_reducible refine gate_callee (f := 26) rfl ?_); refine goesL_ (some 40) rfl rfl Tryd.func26 (by kernel_rfl) rfl #[.agg #[.int .u64 a0_0, .int .u64 a0_1, .int .u64 a0_2, .slice A0_3 l0_3.length c0_3, .slice A0_4 l0_4.length c0_4]] rfl bM ?_; (with_reducible refine (ferruleref04_Tilde.calls a0_0 a0_1 a0_2 _ _ l0_3 _ _ l0_4 t139 t140 t141 t142 t145 t148 _ ?side1 ?side2 ?side3 ?side4 A24.out).mono ?_); (case side1 => exact Kd.C_below HR0_3.out bB); (case side2 => exact HC0_3.out); (case side3 => exact Kd.C_below HR0_4.out bB); (case side4 => exact HC0_4.out); rintro e w55 ⟨v143, v146, rfl, ho0, ho1, hb⟩; refine ⟨_, rfl, ?_⟩; have HO144 := Aside0.mk (Kd.R_lower (Kd.R_new' (Kd.R_new' (Kd.R_new' (Kd.R_new' (Kd.R_new' (Kd.R_new' ho0 (aT HO111 BK138)) (aT HO114 BK138)) (aT HO122 BK138)) (aT HO125 BK138)) (aT HO133 BK138)) (aT HO136 BK138)) (below_size bB)); have HO147 := Aside0.mk (Kd.R_lower (Kd.R_new' (Kd.R_new' (Kd.R_new' (Kd.R_new' (Kd.R_new' (Kd.R_new' ho1 (aT HO111 BK138)) (aT HO114 BK138)) (aT HO122 BK138)) (aT HO125 BK138)) (aT HO133 BK138)) (aT HO136 BK138)) (below_size bB)); replace HO111 := Aside0.mk (Kd.R_mono (Kd.R_told (Kd.R_told (Kd.R_old (aS HO111 BK138) hb) (Kd.R_base ho0)) (Kd.R_base ho1)) (fun _ h_ => h_.1)); replace HO114 := Aside0.mk (Kd.R_mono (Kd.R_told (Kd.R_told (Kd.R_old (aS HO114 BK138) hb) (Kd.R_base ho0)) (Kd.R_base ho1)) (fun _ h_ => h_.1)); replace HO122 := Aside0.mk (Kd.R_mono (Kd.R_told (Kd.R_told (Kd.R_old (aS HO122 BK138) hb) (Kd.R_base ho0)) (Kd.R_base ho1)) (fun _ h_ => h_.1)); replace HO125 := Aside0.mk (Kd.R_mono (Kd.R_told (Kd.R_told (Kd.R_old (aS HO125 BK138) hb) (Kd.R_base ho0)) (Kd.R_base ho1)) (fun _ h_ => h_.1)); replace HO133 := Aside0.mk (Kd.R_mono (Kd.R_told (Kd.R_told (Kd.R_old (aS HO133 BK138) hb) (Kd.R_base ho0)) (Kd.R_base ho1)) (fun _ h_ => h_.1)); replace HO136 := Aside0.mk (Kd.R_mono (Kd.R_told (Kd.R_told (Kd.R_old (aS HO136 BK138) hb) (Kd.R_base ho0)) (Kd.R_base ho1)) (fun _ h_ => h_.1)); replace BK101 := Aside0.mk (blk_below (g := gb101) (o := .cells #[.int .u64 a0_0, .int .u64 a0_1, .int .u64 a0_2, .slice A0_3 l0_3.length c0_3, .slice A0_4 l0_4.length c0_4] 40 (0, 0)) (aKf BK101) hb); replace BK102 := Aside0.mk (blk_below (g := gb102) (o := .cells #[.int .u64 a1_0, .int .u64 a1_1, .int .u64 a1_2, .slice A1_3 l1_3.length c1_3, .slice A1_4 l1_4.length c1_4] 40 (0, 0)) (aKf BK102) hb); replace BK116 := Aside0.mk (blk_below (g := gb116) (o := .cells #[.int .u64 t106, .int .u64 t107, .int .u64 t108, .slice Ao33 t109.length co33, .slice Ao34 t112.length co34] 40 (0, 0)) (aKf BK116) hb); replace BK127 := Aside0.mk (blk_below (g := gb127) (o := .cells #[.int .u64 t117, .int .u64 t118, .int .u64 t119, .slice Ao42 t120.length co42, .slice Ao43 t123.length co43] 40 (0, 0)) (aKf BK127) hb); replace BK138 := Aside0.mk (blk_below (g := gb138) (o := .cells #[.int .u64 t128, .int .u64 t129, .int .u64 t130, .slice Ao52 t131.length co52, .slice Ao53 t134.length co53] 40 (0, 0)) (by (with_reducible repeat (first | refine blk_drewN ?_ _ | refine blk_drew ?_ | refine blk_alloc ?_ _)); refine blk_put (cs := #[.int .u64 t128, .int .u64 t129, .int .u64 t130, .slice Ao52 t131.length co52, .slice none 0 0]) ?_ 4 _ rfl; (with_reducible repeat (first | refine blk_drewN ?_ _ | refine blk_drew ?_ | refine blk_alloc ?_ _)); refine blk_put (cs := #[.int .u64 t128, .int .u64 t129, .int .u64 t130, .slice none 0 0, .slice none 0 0]) ?_ 3 _ rfl; (with_reducible repeat (first | refine blk_drewN ?_ _ | refine blk_drew ?_ | refine blk_alloc ?_ _)); refine blk_put (cs := #[.int .u64 t128, .int .u64 t129, .int .u64 0, .slice none 0 0, .slice none 0 0]) ?_ 2 _ rfl; (with_reducible repeat (first | refine blk_drewN ?_ _ | refine blk_drew ?_ | refine blk_alloc ?_ _)); refine blk_put (cs := #[.int .u64 t128, .int .u64 0, .int .u64 0, .slice none 0 0, .slice none 0 0]) ?_ 1 _ rfl; (with_reducible repeat (first | refine blk_drewN ?_ _ | refine blk_drew ?_ | refine blk_alloc ?_ _)); refine blk_put (cs := #[.int .u64 0, .int .u64 0, .int .u64 0, .slice none 0 0, .slice none 0 0]) ?_ 0 _ rfl; (with_reducible repeat (first | refine blk_drewN ?_ _ | refine blk_drew ?_ | refine blk_alloc ?_ _)); exact BK138.out) hb); replace HB := aB HB hb; (try clear hb); (try clear hb2); (try clear hk); (try clear hi); (try clear ho0); (try clear ho1)) | ((with_reducible refine gate_dst (N := 11) rfl ?_); refine box_event ?hg (N := 11) ?hd (cs := #[.int .u64 0, .int .u64 0, .int .u64 0, .slice none 0 0, .slice none 0 0]) (t := 40) ?hr ?_; (case hd => rfl); (case hg => rfl); (case hr => first | (go_simp; done) | (go_simp; rfl)); intro gb149 hg w56 hbox hb; replace HO111 := aR HO111 hb; replace HO114 := aR HO114 hb; replace HO122 := aR HO122 hb; replace HO125 := aR HO125 hb; replace HO133 := aR HO133 hb; replace HO136 := aR HO136 hb; replace HO144 := aR HO144 hb; replace HO147 := aR HO147 hb; have BK149 := Aside0.mk hbox; have GW149 := Aside0.mk ((by rw [hg]; exact (below_size bB) : w.heap.size ≤ gb149)); have GE149 := Aside0.mk ((by rw [hg]; exact (below_size bB) : w.heap.size ≤ gb149)); replace HB := aB HB hb; have NB101_149 := Aside0.mk ((by rw [hg]; exact Nat.ne_of_lt (blk_lt (g := gb101) (o := .cells #[.int .u64 a0_0, .int .u64 a0_1, .int .u64 a0_2, .slice A0_3 l0_3.length c0_3, .slice A0_4 l0_4.length c0_4] 40 (0, 0)) (aKw BK101)) : gb101 ≠ gb149)); have NB149_101 := Aside0.mk ((by rw [hg]; exact Nat.ne_of_gt (blk_lt (g := gb101) (o := .cells #[.int .u64 a0_0, .int .u64 a0_1, .int .u64 a0_2, .slice A0_3 l0_3.length c0_3, .slice A0_4 l0_4.length c0_4] 40 (0, 0)) (aKw BK101)) : gb149 ≠ gb101)); replace BK101 := aK BK101 hb; have NB102_149 := Aside0.mk ((by rw [hg]; exact Nat.ne_of_lt (blk_lt (g := gb102) (o := .cells #[.int .u64 a1_0, .int .u64 a1_1, .int .u64 a1_2, .slice A1_3 l1_3.length c1_3, .slice A1_4 l1_4.length c1_4] 40 (0, 0)) (aKw BK102)) : gb102 ≠ gb149)); have NB149_102 := Aside0.mk ((by rw [hg]; exact Nat.ne_of_gt (blk_lt (g := gb102) (o := .cells #[.int .u64 a1_0, .int .u64 a1_1, .int .u64 a1_2, .slice A1_3 l1_3.length c1_3, .slice A1_4 l1_4.length c1_4] 40 (0, 0)) (aKw BK102)) : gb149 ≠ gb102)); replace BK102 := aK BK102 hb; have NB116_149 := Aside0.mk ((by rw [hg]; exact Nat.ne_of_lt (blk_lt (g := gb116) (o := .cells #[.int .u64 t106, .int .u64 t107, .int .u64 t108, .slice Ao33 t109.length co33, .slice Ao34 t112.length co34] 40 (0, 0)) (aKw BK116)) : gb116 ≠ gb149)); have NB149_116 := Aside0.mk ((by rw [hg]; exact Nat.ne_of_gt (blk_lt (g := gb116) (o := .cells #[.int .u64 t106, .int .u64 t107, .int .u64 t108, .slice Ao33 t109.length co33, .slice Ao34 t112.length co34] 40 (0, 0)) (aKw BK116)) : gb149 ≠ gb116)); replace BK116 := aK BK116 hb; have NB127_149 := Aside0.mk ((by rw [hg]; exact Nat.ne_of_lt (blk_lt (g := gb127) (o := .cells #[.int .u64 t117, .int .u64 t118, .int .u64 t119, .slice Ao42 t120.length co42, .slice Ao43 t123.length co43] 40 (0, 0)) (aKw BK127)) : gb127 ≠ gb149)); have NB149_127 := Aside0.mk ((by rw [hg]; exact Nat.ne_of_gt (blk_lt (g := gb127) (o := .cells #[.int .u64 t117, .int .u64 t118, .int .u64 t119, .slice Ao42 t120.length co42, .slice Ao43 t123.length co43] 40 (0, 0)) (aKw BK127)) : gb149 ≠ gb127)); replace BK127 := aK BK127 hb; have NB138_149 := Aside0.mk ((by rw [hg]; exact Nat.ne_of_lt (blk_lt (g := gb138) (o := .cells #[.int .u64 t128, .int .u64 t129, .int .u64 t130, .slice Ao52 t131.length co52, .slice Ao53 t134.length co53] 40 (0, 0)) (aKw BK138)) : gb138 ≠ gb149)); have NB149_138 := Aside0.mk ((by rw [hg]; exact Nat.ne_of_gt (blk_lt (g := gb138) (o := .cells #[.int .u64 t128, .int .u64 t129, .int .u64 t130, .slice Ao52 t131.length co52, .slice Ao53 t134.length co53] 40 (0, 0)) (aKw BK138)) : gb149 ≠ gb138)); replace BK138 := aK BK138 hb; clear hb hbox hg; have hnb57 := NB149_101.out; have hnc57 := NB101_149.out; have hnb58 := NB149_102.out; have hnc58 := NB102_149.out; have hnb59 := NB149_116.out; have hnc59 := NB116_149.out; have hnb60 := NB149_127.out; have hnc60 := NB127_149.out; have hnb61 := NB149_138.out; have hnc61 := NB138_149.out; have hcz62_0 : w56.cell? ⟨gb149, 0, none⟩ = some (.int .u64 0) := (blk_cell BK149.out 0).trans rfl; have hcz62_1 : w56.cell? ⟨gb149, 1, none⟩ = some (.int .u64 0) := (blk_cell BK149.out 1).trans rfl; have hcz62_2 : w56.cell? ⟨gb149, 2, none⟩ = some (.int .u64 0) := (blk_cell BK149.out 2).trans rfl; have hcz62_3 : w56.cell? ⟨gb149, 3, none⟩ = some (.slice none 0 0) := (blk_cell BK149.out 3).trans rfl; have hcz62_4 : w56.cell? ⟨gb149, 4, none⟩ = some (.slice none 0 0) := (blk_cell BK149.out 4).trans rfl; have hfz62_0 := blk_frozen BK149.out 0; have hfz62_1 := blk_frozen BK149.out 1; have hfz62_2 := blk_frozen BK149.out 2; have hfz62_3 := blk_frozen BK149.out 3; have hfz62_4 := blk_frozen BK149.out 4; obtain ⟨Ao63, co63, eo63⟩ := Kd.R_slice HO144.out; subst eo63; obtain ⟨Ao64, co64, eo64⟩ := Kd.R_slice HO147.out; subst eo64))
     (try simp only [Act.put, List.setIfInBounds_toArray, List.set_cons_zero, List.set_cons_succ])
     go_cut [80] (fun v80 wc => ∃ (kq : Nat) (x80_24 : Bool), v80 = .bool x80_24 ∧ Aside0 (ferrulelaw04_PrecEnds.j1 kq t115 t126 x80_24 a0_0 a0_1 a0_2 l0_3 l0_4 a1_0 a1_1 a1_2 l1_3 l1_4 t106 t107 t108 t109 t112 t117 t118 t119 t120 t123 = some r) ∧ Aside0 (kq ≤ kj4) ∧ Aside0 (Kd.R Kd.string 9 wc w.heap.size (fun k_ => some k_ ≠ ob Ao34 t112 co34 ∧ some k_ ≠ ob Ao42 t120 co42 ∧ some k_ ≠ ob Ao43 t123 co43 ∧ some k_ ≠ ob Ao52 t131 co52 ∧ some k_ ≠ ob Ao53 t134 co53 ∧ some k_ ≠ ob Ao63 t142 co63 ∧ some k_ ≠ ob Ao64 t145 co64) (.slice Ao33 t109.length co33) t109) ∧ Aside0 (Kd.R Kd.string 9 wc w.heap.size (fun k_ => some k_ ≠ ob Ao33 t109 co33 ∧ some k_ ≠ ob Ao42 t120 co42 ∧ some k_ ≠ ob Ao43 t123 co43 ∧ some k_ ≠ ob Ao52 t131 co52 ∧ some k_ ≠ ob Ao53 t134 co53 ∧ some k_ ≠ ob Ao63 t142 co63 ∧ some k_ ≠ ob Ao64 t145 co64) (.slice Ao34 t112.length co34) t112) ∧ Aside0 (Kd.R Kd.string 9 wc w.heap.size (fun k_ => some k_ ≠ ob Ao33 t109 co33 ∧ some k_ ≠ ob Ao34 t112 co34 ∧ some k_ ≠ ob Ao43 t123 co43 ∧ some k_ ≠ ob Ao52 t131 co52 ∧ some k_ ≠ ob Ao53 t134 co53 ∧ some k_ ≠ ob Ao63 t142 co63 ∧ some k_ ≠ ob Ao64 t145 co64) (.slice Ao42 t120.length co42) t120) ∧ Aside0 (Kd.R Kd.string 9 wc w.heap.size (fun k_ => some k_ ≠ ob Ao33 t109 co33 ∧ some k_ ≠ ob Ao34 t112 co34 ∧ some k_ ≠ ob Ao42 t120 co42 ∧ some k_ ≠ ob Ao52 t131 co52 ∧ some k_ ≠ ob Ao53 t134 co53 ∧ some k_ ≠ ob Ao63 t142 co63 ∧ some k_ ≠ ob Ao64 t145 co64) (.slice Ao43 t123.length co43) t123) ∧ Aside0 (Kd.R Kd.string 9 wc w.heap.size (fun k_ => some k_ ≠ ob Ao33 t109 co33 ∧ some k_ ≠ ob Ao34 t112 co34 ∧ some k_ ≠ ob Ao42 t120 co42 ∧ some k_ ≠ ob Ao43 t123 co43 ∧ some k_ ≠ ob Ao53 t134 co53 ∧ some k_ ≠ ob Ao63 t142 co63 ∧ some k_ ≠ ob Ao64 t145 co64) (.slice Ao52 t131.length co52) t131) ∧ Aside0 (Kd.R Kd.string 9 wc w.heap.size (fun k_ => some k_ ≠ ob Ao33 t109 co33 ∧ some k_ ≠ ob Ao34 t112 co34 ∧ some k_ ≠ ob Ao42 t120 co42 ∧ some k_ ≠ ob Ao43 t123 co43 ∧ some k_ ≠ ob Ao52 t131 co52 ∧ some k_ ≠ ob Ao63 t142 co63 ∧ some k_ ≠ ob Ao64 t145 co64) (.slice Ao53 t134.length co53) t134) ∧ Aside0 (Kd.R Kd.string 9 wc w.heap.size (fun k_ => some k_ ≠ ob Ao33 t109 co33 ∧ some k_ ≠ ob Ao34 t112 co34 ∧ some k_ ≠ ob Ao42 t120 co42 ∧ some k_ ≠ ob Ao43 t123 co43 ∧ some k_ ≠ ob Ao52 t131 co52 ∧ some k_ ≠ ob Ao53 t134 co53 ∧ some k_ ≠ ob Ao64 t145 co64) (.slice Ao63 t142.length co63) t142) ∧ Aside0 (Kd.R Kd.string 9 wc w.heap.size (fun k_ => some k_ ≠ ob Ao33 t109 co33 ∧ some k_ ≠ ob Ao34 t112 co34 ∧ some k_ ≠ ob Ao42 t120 co42 ∧ some k_ ≠ ob Ao43 t123 co43 ∧ some k_ ≠ ob Ao52 t131 co52 ∧ some k_ ≠ ob Ao53 t134 co53 ∧ some k_ ≠ ob Ao63 t142 co63) (.slice Ao64 t145.length co64) t145) ∧ Aside0 (wc.heap[gb101]? = some (.cells #[.int .u64 a0_0, .int .u64 a0_1, .int .u64 a0_2, (.slice A0_3 l0_3.length c0_3), (.slice A0_4 l0_4.length c0_4)] 40 (0, 0))) ∧ Aside0 (wc.heap[gb102]? = some (.cells #[.int .u64 a1_0, .int .u64 a1_1, .int .u64 a1_2, (.slice A1_3 l1_3.length c1_3), (.slice A1_4 l1_4.length c1_4)] 40 (0, 0))) ∧ Aside0 (wc.heap[gb116]? = some (.cells #[.int .u64 t106, .int .u64 t107, .int .u64 t108, (.slice Ao33 t109.length co33), (.slice Ao34 t112.length co34)] 40 (0, 0))) ∧ Aside0 (wc.heap[gb127]? = some (.cells #[.int .u64 t117, .int .u64 t118, .int .u64 t119, (.slice Ao42 t120.length co42), (.slice Ao43 t123.length co43)] 40 (0, 0))) ∧ Aside0 (wc.heap[gb138]? = some (.cells #[.int .u64 t128, .int .u64 t129, .int .u64 t130, (.slice Ao52 t131.length co52), (.slice Ao53 t134.length co53)] 40 (0, 0))) ∧ Aside0 (wc.heap[gb149]? = some (.cells #[.int .u64 t139, .int .u64 t140, .int .u64 t141, (.slice Ao63 t142.length co63), (.slice Ao64 t145.length co64)] 40 (0, 0))) ∧ Aside0 (Below w.heap.size w wc))
     case first =>
      have H := HC25.out
      clear HC25
      by_cases c65 : (t115 != t137) = true
      ·rw [if_pos c65] at H
       have c65b0 : (t115 != t137) = true := c65
       (try (have c65b1 : decide (t115 = t137) = false := by simpa using c65))
       (try (have c65b2 : (t115 == t137) = false := by simpa using c65))
       (try (have c65b3 : ¬ (t115 = t137) := by simpa using c65))
       clear c65
       (first | rw [c65b0] | (simp only [i64_w, i32_w]; rw [c65b0]) | skip)
       have H' := Aside0.mk H
       clear H
       try go_wp2
       generalize hW_ : (((((w56.setCell ⟨gb149, 0, none⟩ (.int .u64 t139)).setCell ⟨gb149, 1, none⟩ (.int .u64 t140)).setCell ⟨gb149, 2, none⟩ (.int .u64 t141)).setCell ⟨gb149, 3, none⟩ (.slice Ao63 t142.length co63)).setCell ⟨gb149, 4, none⟩ (.slice Ao64 t145.length co64)) = w66
       have n0_ : Aside0 (Kd.R Kd.string 9 w66 w.heap.size (fun k_ => some k_ ≠ ob Ao34 t112 co34 ∧ some k_ ≠ ob Ao42 t120 co42 ∧ some k_ ≠ ob Ao43 t123 co43 ∧ some k_ ≠ ob Ao52 t131 co52 ∧ some k_ ≠ ob Ao53 t134 co53 ∧ some k_ ≠ ob Ao63 t142 co63 ∧ some k_ ≠ ob Ao64 t145 co64) (.slice Ao33 t109.length co33) t109) := ⟨by subst hW_; (with_reducible repeat (first | apply Kd.R_alloc | apply Kd.R_drewN | apply Kd.R_drew)); exact Kd.R_mono (aG HO111 BK149) bK⟩
       have n1_ : Aside0 (Kd.R Kd.string 9 w66 w.heap.size (fun k_ => some k_ ≠ ob Ao33 t109 co33 ∧ some k_ ≠ ob Ao42 t120 co42 ∧ some k_ ≠ ob Ao43 t123 co43 ∧ some k_ ≠ ob Ao52 t131 co52 ∧ some k_ ≠ ob Ao53 t134 co53 ∧ some k_ ≠ ob Ao63 t142 co63 ∧ some k_ ≠ ob Ao64 t145 co64) (.slice Ao34 t112.length co34) t112) := ⟨by subst hW_; (with_reducible repeat (first | apply Kd.R_alloc | apply Kd.R_drewN | apply Kd.R_drew)); exact Kd.R_mono (aG HO114 BK149) bK⟩
       have n2_ : Aside0 (Kd.R Kd.string 9 w66 w.heap.size (fun k_ => some k_ ≠ ob Ao33 t109 co33 ∧ some k_ ≠ ob Ao34 t112 co34 ∧ some k_ ≠ ob Ao43 t123 co43 ∧ some k_ ≠ ob Ao52 t131 co52 ∧ some k_ ≠ ob Ao53 t134 co53 ∧ some k_ ≠ ob Ao63 t142 co63 ∧ some k_ ≠ ob Ao64 t145 co64) (.slice Ao42 t120.length co42) t120) := ⟨by subst hW_; (with_reducible repeat (first | apply Kd.R_alloc | apply Kd.R_drewN | apply Kd.R_drew)); exact Kd.R_mono (aG HO122 BK149) bK⟩
       have n3_ : Aside0 (Kd.R Kd.string 9 w66 w.heap.size (fun k_ => some k_ ≠ ob Ao33 t109 co33 ∧ some k_ ≠ ob Ao34 t112 co34 ∧ some k_ ≠ ob Ao42 t120 co42 ∧ some k_ ≠ ob Ao52 t131 co52 ∧ some k_ ≠ ob Ao53 t134 co53 ∧ some k_ ≠ ob Ao63 t142 co63 ∧ some k_ ≠ ob Ao64 t145 co64) (.slice Ao43 t123.length co43) t123) := ⟨by subst hW_; (with_reducible repeat (first | apply Kd.R_alloc | apply Kd.R_drewN | apply Kd.R_drew)); exact Kd.R_mono (aG HO125 BK149) bK⟩
       have n4_ : Aside0 (Kd.R Kd.string 9 w66 w.heap.size (fun k_ => some k_ ≠ ob Ao33 t109 co33 ∧ some k_ ≠ ob Ao34 t112 co34 ∧ some k_ ≠ ob Ao42 t120 co42 ∧ some k_ ≠ ob Ao43 t123 co43 ∧ some k_ ≠ ob Ao53 t134 co53 ∧ some k_ ≠ ob Ao63 t142 co63 ∧ some k_ ≠ ob Ao64 t145 co64) (.slice Ao52 t131.length co52) t131) := ⟨by subst hW_; (with_reducible repeat (first | apply Kd.R_alloc | apply Kd.R_drewN | apply Kd.R_drew)); exact Kd.R_mono (aG HO133 BK149) bK⟩
       have n5_ : Aside0 (Kd.R Kd.string 9 w66 w.heap.size (fun k_ => some k_ ≠ ob Ao33 t109 co33 ∧ some k_ ≠ ob Ao34 t112 co34 ∧ some k_ ≠ ob Ao42 t120 co42 ∧ some k_ ≠ ob Ao43 t123 co43 ∧ some k_ ≠ ob Ao52 t131 co52 ∧ some k_ ≠ ob Ao63 t142 co63 ∧ some k_ ≠ ob Ao64 t145 co64) (.slice Ao53 t134.length co53) t134) := ⟨by subst hW_; (with_reducible repeat (first | apply Kd.R_alloc | apply Kd.R_drewN | apply Kd.R_drew)); exact Kd.R_mono (aG HO136 BK149) bK⟩
       have n6_ : Aside0 (Kd.R Kd.string 9 w66 w.heap.size (fun k_ => some k_ ≠ ob Ao33 t109 co33 ∧ some k_ ≠ ob Ao34 t112 co34 ∧ some k_ ≠ ob Ao42 t120 co42 ∧ some k_ ≠ ob Ao43 t123 co43 ∧ some k_ ≠ ob Ao52 t131 co52 ∧ some k_ ≠ ob Ao53 t134 co53 ∧ some k_ ≠ ob Ao64 t145 co64) (.slice Ao63 t142.length co63) t142) := ⟨by subst hW_; (with_reducible repeat (first | apply Kd.R_alloc | apply Kd.R_drewN | apply Kd.R_drew)); exact Kd.R_mono (aG HO144 BK149) bK⟩
       have n7_ : Aside0 (Kd.R Kd.string 9 w66 w.heap.size (fun k_ => some k_ ≠ ob Ao33 t109 co33 ∧ some k_ ≠ ob Ao34 t112 co34 ∧ some k_ ≠ ob Ao42 t120 co42 ∧ some k_ ≠ ob Ao43 t123 co43 ∧ some k_ ≠ ob Ao52 t131 co52 ∧ some k_ ≠ ob Ao53 t134 co53 ∧ some k_ ≠ ob Ao63 t142 co63) (.slice Ao64 t145.length co64) t145) := ⟨by subst hW_; (with_reducible repeat (first | apply Kd.R_alloc | apply Kd.R_drewN | apply Kd.R_drew)); exact Kd.R_mono (aG HO147 BK149) bK⟩
       have n8_ : Aside0 (w66.heap[gb101]? = some (.cells #[.int .u64 a0_0, .int .u64 a0_1, .int .u64 a0_2, .slice A0_3 l0_3.length c0_3, .slice A0_4 l0_4.length c0_4] 40 (0, 0))) := ⟨by subst hW_; (with_reducible repeat (first | refine blk_drewN ?_ _ | refine blk_drew ?_ | refine blk_alloc ?_ _)); refine blk_far ?_ NB101_149.out _; (with_reducible repeat (first | refine blk_drewN ?_ _ | refine blk_drew ?_ | refine blk_alloc ?_ _)); refine blk_far ?_ NB101_149.out _; (with_reducible repeat (first | refine blk_drewN ?_ _ | refine blk_drew ?_ | refine blk_alloc ?_ _)); refine blk_far ?_ NB101_149.out _; (with_reducible repeat (first | refine blk_drewN ?_ _ | refine blk_drew ?_ | refine blk_alloc ?_ _)); refine blk_far ?_ NB101_149.out _; (with_reducible repeat (first | refine blk_drewN ?_ _ | refine blk_drew ?_ | refine blk_alloc ?_ _)); refine blk_far ?_ NB101_149.out _; (with_reducible repeat (first | refine blk_drewN ?_ _ | refine blk_drew ?_ | refine blk_alloc ?_ _)); exact BK101.out⟩
       have n9_ : Aside0 (w66.heap[gb102]? = some (.cells #[.int .u64 a1_0, .int .u64 a1_1, .int .u64 a1_2, .slice A1_3 l1_3.length c1_3, .slice A1_4 l1_4.length c1_4] 40 (0, 0))) := ⟨by subst hW_; (with_reducible repeat (first | refine blk_drewN ?_ _ | refine blk_drew ?_ | refine blk_alloc ?_ _)); refine blk_far ?_ NB102_149.out _; (with_reducible repeat (first | refine blk_drewN ?_ _ | refine blk_drew ?_ | refine blk_alloc ?_ _)); refine blk_far ?_ NB102_149.out _; (with_reducible repeat (first | refine blk_drewN ?_ _ | refine blk_drew ?_ | refine blk_alloc ?_ _)); refine blk_far ?_ NB102_149.out _; (with_reducible repeat (first | refine blk_drewN ?_ _ | refine blk_drew ?_ | refine blk_alloc ?_ _)); refine blk_far ?_ NB102_149.out _; (with_reducible repeat (first | refine blk_drewN ?_ _ | refine blk_drew ?_ | refine blk_alloc ?_ _)); refine blk_far ?_ NB102_149.out _; (with_reducible repeat (first | refine blk_drewN ?_ _ | refine blk_drew ?_ | refine blk_alloc ?_ _)); exact BK102.out⟩
       have n10_ : Aside0 (w66.heap[gb116]? = some (.cells #[.int .u64 t106, .int .u64 t107, .int .u64 t108, .slice Ao33 t109.length co33, .slice Ao34 t112.length co34] 40 (0, 0))) := ⟨by subst hW_; (with_reducible repeat (first | refine blk_drewN ?_ _ | refine blk_drew ?_ | refine blk_alloc ?_ _)); refine blk_far ?_ NB116_149.out _; (with_reducible repeat (first | refine blk_drewN ?_ _ | refine blk_drew ?_ | refine blk_alloc ?_ _)); refine blk_far ?_ NB116_149.out _; (with_reducible repeat (first | refine blk_drewN ?_ _ | refine blk_drew ?_ | refine blk_alloc ?_ _)); refine blk_far ?_ NB116_149.out _; (with_reducible repeat (first | refine blk_drewN ?_ _ | refine blk_drew ?_ | refine blk_alloc ?_ _)); refine blk_far ?_ NB116_149.out _; (with_reducible repeat (first | refine blk_drewN ?_ _ | refine blk_drew ?_ | refine blk_alloc ?_ _)); refine blk_far ?_ NB116_149.out _; (with_reducible repeat (first | refine blk_drewN ?_ _ | refine blk_drew ?_ | refine blk_alloc ?_ _)); exact BK116.out⟩
       have n11_ : Aside0 (w66.heap[gb127]? = some (.cells #[.int .u64 t117, .int .u64 t118, .int .u64 t119, .slice Ao42 t120.length co42, .slice Ao43 t123.length co43] 40 (0, 0))) := ⟨by subst hW_; (with_reducible repeat (first | refine blk_drewN ?_ _ | refine blk_drew ?_ | refine blk_alloc ?_ _)); refine blk_far ?_ NB127_149.out _; (with_reducible repeat (first | refine blk_drewN ?_ _ | refine blk_drew ?_ | refine blk_alloc ?_ _)); refine blk_far ?_ NB127_149.out _; (with_reducible repeat (first | refine blk_drewN ?_ _ | refine blk_drew ?_ | refine blk_alloc ?_ _)); refine blk_far ?_ NB127_149.out _; (with_reducible repeat (first | refine blk_drewN ?_ _ | refine blk_drew ?_ | refine blk_alloc ?_ _)); refine blk_far ?_ NB127_149.out _; (with_reducible repeat (first | refine blk_drewN ?_ _ | refine blk_drew ?_ | refine blk_alloc ?_ _)); refine blk_far ?_ NB127_149.out _; (with_reducible repeat (first | refine blk_drewN ?_ _ | refine blk_drew ?_ | refine blk_alloc ?_ _)); exact BK127.out⟩
       have n12_ : Aside0 (w66.heap[gb138]? = some (.cells #[.int .u64 t128, .int .u64 t129, .int .u64 t130, .slice Ao52 t131.length co52, .slice Ao53 t134.length co53] 40 (0, 0))) := ⟨by subst hW_; (with_reducible repeat (first | refine blk_drewN ?_ _ | refine blk_drew ?_ | refine blk_alloc ?_ _)); refine blk_far ?_ NB138_149.out _; (with_reducible repeat (first | refine blk_drewN ?_ _ | refine blk_drew ?_ | refine blk_alloc ?_ _)); refine blk_far ?_ NB138_149.out _; (with_reducible repeat (first | refine blk_drewN ?_ _ | refine blk_drew ?_ | refine blk_alloc ?_ _)); refine blk_far ?_ NB138_149.out _; (with_reducible repeat (first | refine blk_drewN ?_ _ | refine blk_drew ?_ | refine blk_alloc ?_ _)); refine blk_far ?_ NB138_149.out _; (with_reducible repeat (first | refine blk_drewN ?_ _ | refine blk_drew ?_ | refine blk_alloc ?_ _)); refine blk_far ?_ NB138_149.out _; (with_reducible repeat (first | refine blk_drewN ?_ _ | refine blk_drew ?_ | refine blk_alloc ?_ _)); exact BK138.out⟩
       have n13_ : Aside0 (w66.heap[gb149]? = some (.cells #[.int .u64 t139, .int .u64 t140, .int .u64 t141, .slice Ao63 t142.length co63, .slice Ao64 t145.length co64] 40 (0, 0))) := ⟨by subst hW_; (with_reducible repeat (first | refine blk_drewN ?_ _ | refine blk_drew ?_ | refine blk_alloc ?_ _)); refine blk_put (cs := #[.int .u64 t139, .int .u64 t140, .int .u64 t141, .slice Ao63 t142.length co63, .slice none 0 0]) ?_ 4 _ rfl; (with_reducible repeat (first | refine blk_drewN ?_ _ | refine blk_drew ?_ | refine blk_alloc ?_ _)); refine blk_put (cs := #[.int .u64 t139, .int .u64 t140, .int .u64 t141, .slice none 0 0, .slice none 0 0]) ?_ 3 _ rfl; (with_reducible repeat (first | refine blk_drewN ?_ _ | refine blk_drew ?_ | refine blk_alloc ?_ _)); refine blk_put (cs := #[.int .u64 t139, .int .u64 t140, .int .u64 0, .slice none 0 0, .slice none 0 0]) ?_ 2 _ rfl; (with_reducible repeat (first | refine blk_drewN ?_ _ | refine blk_drew ?_ | refine blk_alloc ?_ _)); refine blk_put (cs := #[.int .u64 t139, .int .u64 0, .int .u64 0, .slice none 0 0, .slice none 0 0]) ?_ 1 _ rfl; (with_reducible repeat (first | refine blk_drewN ?_ _ | refine blk_drew ?_ | refine blk_alloc ?_ _)); refine blk_put (cs := #[.int .u64 0, .int .u64 0, .int .u64 0, .slice none 0 0, .slice none 0 0]) ?_ 0 _ rfl; (with_reducible repeat (first | refine blk_drewN ?_ _ | refine blk_drew ?_ | refine blk_alloc ?_ _)); exact BK149.out⟩
       have n14_ : Aside0 (Below w.heap.size w w66) := ⟨by subst hW_; exact bB⟩
       (try clear HO111)
       (try clear HO114)
       (try clear HO122)
       (try clear HO125)
       (try clear HO133)
       (try clear HO136)
       (try clear HO144)
       (try clear HO147)
       (try clear BK101)
       (try clear BK102)
       (try clear BK116)
       (try clear BK127)
       (try clear BK138)
       (try clear BK149)
       (try clear HB)
       clear hW_
       have HO111 := n0_
       have HO114 := n1_
       have HO122 := n2_
       have HO125 := n3_
       have HO133 := n4_
       have HO136 := n5_
       have HO144 := n6_
       have HO147 := n7_
       have BK101 := n8_
       have BK102 := n9_
       have BK116 := n10_
       have BK127 := n11_
       have BK138 := n12_
       have BK149 := n13_
       have HB := n14_
       clear n0_ n1_ n2_ n3_ n4_ n5_ n6_ n7_ n8_ n9_ n10_ n11_ n12_ n13_ n14_
       replace HO111 := Aside0.mk (Kd.R_drew HO111.out)
       replace HO114 := Aside0.mk (Kd.R_drew HO114.out)
       replace HO122 := Aside0.mk (Kd.R_drew HO122.out)
       replace HO125 := Aside0.mk (Kd.R_drew HO125.out)
       replace HO133 := Aside0.mk (Kd.R_drew HO133.out)
       replace HO136 := Aside0.mk (Kd.R_drew HO136.out)
       replace HO144 := Aside0.mk (Kd.R_drew HO144.out)
       replace HO147 := Aside0.mk (Kd.R_drew HO147.out)
       replace BK101 := Aside0.mk (blk_drew BK101.out)
       replace BK102 := Aside0.mk (blk_drew BK102.out)
       replace BK116 := Aside0.mk (blk_drew BK116.out)
       replace BK127 := Aside0.mk (blk_drew BK127.out)
       replace BK138 := Aside0.mk (blk_drew BK138.out)
       replace BK149 := Aside0.mk (blk_drew BK149.out)
       replace HB := Aside0.mk (below_drew1 HB.out)
       refine start_ (n := 38) (S := fun w' => True) (ds := []) #[false, false, false, false, false, false, false, false, false, false, false, false, false, false, false, false, false, false, false, false, false, false, false, false, false, false, false, false, false, false, false, false, false, false, false, false, false, false] (by kernel_rfl) rfl rfl trivial (fun hHeld => ?_); refine with_tabW ferrulelaw04_PrecEnds.tab9 ferrulelaw04_PrecEnds.bits9 (fun HT_ HW_ => ?_)
       generalize w66.drew = w67 at HO111 HO114 HO122 HO125 HO133 HO136 HO144 HO147 BK101 BK102 BK116 BK127 BK138 BK149 HB hHeld ⊢
       refine pV 0 43 rfl rfl ?_
       refine pV 1 44 rfl rfl ?_
       refine pV 2 45 rfl rfl ?_
       refine pV 3 46 rfl rfl ?_
       refine pU 4 47 rfl rfl ?_
       refine pU 5 48 rfl rfl ?_
       refine pU 6 49 rfl rfl ?_
       refine pV 7 50 rfl rfl ?_
       refine pV 8 51 rfl rfl ?_
       refine pU 9 52 rfl rfl ?_
       refine pU 10 53 rfl rfl ?_
       refine pU 11 54 rfl rfl ?_
       refine pU 12 55 rfl rfl ?_
       refine pV 13 56 rfl rfl ?_
       refine pV 14 57 rfl rfl ?_
       refine pU 15 58 rfl rfl ?_
       refine pU 16 59 rfl rfl ?_
       refine pU 17 60 rfl rfl ?_
       refine pU 18 61 rfl rfl ?_
       refine pV 19 62 rfl rfl ?_
       refine pV 20 63 rfl rfl ?_
       refine pU 21 64 rfl rfl ?_
       refine pU 22 65 rfl rfl ?_
       refine pU 23 66 rfl rfl ?_
       refine pU 24 67 rfl rfl ?_
       refine pU 25 68 rfl rfl ?_
       refine pU 26 69 rfl rfl ?_
       refine pU 27 70 rfl rfl ?_
       refine pU 28 71 rfl rfl ?_
       refine pU 29 72 rfl rfl ?_
       refine pU 30 73 rfl rfl ?_
       refine pU 31 74 rfl rfl ?_
       refine pU 32 75 rfl rfl ?_
       refine pU 33 76 rfl rfl ?_
       refine pU 34 77 rfl rfl ?_
       refine pU 35 78 rfl rfl ?_
       refine pU 36 79 rfl rfl ?_
       refine pV 37 80 rfl rfl ?_
       refine done_ (done_of HT_.out (by kernel_rfl)) ?_
       try go_wp2
       go_meet
       case rel => exact ⟨_, (true), bS, H', ⟨by have := HJ4.out; first | omega | exact Nat.le_refl _⟩, ⟨aRw HO111⟩, ⟨aRw HO114⟩, ⟨aRw HO122⟩, ⟨aRw HO125⟩, ⟨aRw HO133⟩, ⟨aRw HO136⟩, ⟨aRw HO144⟩, ⟨aRw HO147⟩, ⟨aKw BK101⟩, ⟨aKw BK102⟩, ⟨aKw BK116⟩, ⟨aKw BK127⟩, ⟨aKw BK138⟩, ⟨aKw BK149⟩, ⟨bB⟩⟩
      ·rw [if_neg c65] at H
       have c65b0 : (t115 != t137) = false := by simpa using c65
       (try (have c65b1 : decide (t115 = t137) = true := by simpa using c65))
       (try (have c65b2 : (t115 == t137) = true := by simpa using c65))
       clear c65
       (first | rw [c65b0] | (simp only [i64_w, i32_w]; rw [c65b0]) | skip)
       by_cases c68 : (t126 != t148) = true
       ·rw [if_pos c68] at H
        have c68b0 : (t126 != t148) = true := c68
        (try (have c68b1 : decide (t126 = t148) = false := by simpa using c68))
        (try (have c68b2 : (t126 == t148) = false := by simpa using c68))
        (try (have c68b3 : ¬ (t126 = t148) := by simpa using c68))
        clear c68
        have H' := Aside0.mk H
        clear H
        try go_wp2
        generalize hW_ : (((((w56.setCell ⟨gb149, 0, none⟩ (.int .u64 t139)).setCell ⟨gb149, 1, none⟩ (.int .u64 t140)).setCell ⟨gb149, 2, none⟩ (.int .u64 t141)).setCell ⟨gb149, 3, none⟩ (.slice Ao63 t142.length co63)).setCell ⟨gb149, 4, none⟩ (.slice Ao64 t145.length co64)) = w69
        have n0_ : Aside0 (Kd.R Kd.string 9 w69 w.heap.size (fun k_ => some k_ ≠ ob Ao34 t112 co34 ∧ some k_ ≠ ob Ao42 t120 co42 ∧ some k_ ≠ ob Ao43 t123 co43 ∧ some k_ ≠ ob Ao52 t131 co52 ∧ some k_ ≠ ob Ao53 t134 co53 ∧ some k_ ≠ ob Ao63 t142 co63 ∧ some k_ ≠ ob Ao64 t145 co64) (.slice Ao33 t109.length co33) t109) := ⟨by subst hW_; (with_reducible repeat (first | apply Kd.R_alloc | apply Kd.R_drewN | apply Kd.R_drew)); exact Kd.R_mono (aG HO111 BK149) bK⟩
        have n1_ : Aside0 (Kd.R Kd.string 9 w69 w.heap.size (fun k_ => some k_ ≠ ob Ao33 t109 co33 ∧ some k_ ≠ ob Ao42 t120 co42 ∧ some k_ ≠ ob Ao43 t123 co43 ∧ some k_ ≠ ob Ao52 t131 co52 ∧ some k_ ≠ ob Ao53 t134 co53 ∧ some k_ ≠ ob Ao63 t142 co63 ∧ some k_ ≠ ob Ao64 t145 co64) (.slice Ao34 t112.length co34) t112) := ⟨by subst hW_; (with_reducible repeat (first | apply Kd.R_alloc | apply Kd.R_drewN | apply Kd.R_drew)); exact Kd.R_mono (aG HO114 BK149) bK⟩
        have n2_ : Aside0 (Kd.R Kd.string 9 w69 w.heap.size (fun k_ => some k_ ≠ ob Ao33 t109 co33 ∧ some k_ ≠ ob Ao34 t112 co34 ∧ some k_ ≠ ob Ao43 t123 co43 ∧ some k_ ≠ ob Ao52 t131 co52 ∧ some k_ ≠ ob Ao53 t134 co53 ∧ some k_ ≠ ob Ao63 t142 co63 ∧ some k_ ≠ ob Ao64 t145 co64) (.slice Ao42 t120.length co42) t120) := ⟨by subst hW_; (with_reducible repeat (first | apply Kd.R_alloc | apply Kd.R_drewN | apply Kd.R_drew)); exact Kd.R_mono (aG HO122 BK149) bK⟩
        have n3_ : Aside0 (Kd.R Kd.string 9 w69 w.heap.size (fun k_ => some k_ ≠ ob Ao33 t109 co33 ∧ some k_ ≠ ob Ao34 t112 co34 ∧ some k_ ≠ ob Ao42 t120 co42 ∧ some k_ ≠ ob Ao52 t131 co52 ∧ some k_ ≠ ob Ao53 t134 co53 ∧ some k_ ≠ ob Ao63 t142 co63 ∧ some k_ ≠ ob Ao64 t145 co64) (.slice Ao43 t123.length co43) t123) := ⟨by subst hW_; (with_reducible repeat (first | apply Kd.R_alloc | apply Kd.R_drewN | apply Kd.R_drew)); exact Kd.R_mono (aG HO125 BK149) bK⟩
        have n4_ : Aside0 (Kd.R Kd.string 9 w69 w.heap.size (fun k_ => some k_ ≠ ob Ao33 t109 co33 ∧ some k_ ≠ ob Ao34 t112 co34 ∧ some k_ ≠ ob Ao42 t120 co42 ∧ some k_ ≠ ob Ao43 t123 co43 ∧ some k_ ≠ ob Ao53 t134 co53 ∧ some k_ ≠ ob Ao63 t142 co63 ∧ some k_ ≠ ob Ao64 t145 co64) (.slice Ao52 t131.length co52) t131) := ⟨by subst hW_; (with_reducible repeat (first | apply Kd.R_alloc | apply Kd.R_drewN | apply Kd.R_drew)); exact Kd.R_mono (aG HO133 BK149) bK⟩
        have n5_ : Aside0 (Kd.R Kd.string 9 w69 w.heap.size (fun k_ => some k_ ≠ ob Ao33 t109 co33 ∧ some k_ ≠ ob Ao34 t112 co34 ∧ some k_ ≠ ob Ao42 t120 co42 ∧ some k_ ≠ ob Ao43 t123 co43 ∧ some k_ ≠ ob Ao52 t131 co52 ∧ some k_ ≠ ob Ao63 t142 co63 ∧ some k_ ≠ ob Ao64 t145 co64) (.slice Ao53 t134.length co53) t134) := ⟨by subst hW_; (with_reducible repeat (first | apply Kd.R_alloc | apply Kd.R_drewN | apply Kd.R_drew)); exact Kd.R_mono (aG HO136 BK149) bK⟩
        have n6_ : Aside0 (Kd.R Kd.string 9 w69 w.heap.size (fun k_ => some k_ ≠ ob Ao33 t109 co33 ∧ some k_ ≠ ob Ao34 t112 co34 ∧ some k_ ≠ ob Ao42 t120 co42 ∧ some k_ ≠ ob Ao43 t123 co43 ∧ some k_ ≠ ob Ao52 t131 co52 ∧ some k_ ≠ ob Ao53 t134 co53 ∧ some k_ ≠ ob Ao64 t145 co64) (.slice Ao63 t142.length co63) t142) := ⟨by subst hW_; (with_reducible repeat (first | apply Kd.R_alloc | apply Kd.R_drewN | apply Kd.R_drew)); exact Kd.R_mono (aG HO144 BK149) bK⟩
        have n7_ : Aside0 (Kd.R Kd.string 9 w69 w.heap.size (fun k_ => some k_ ≠ ob Ao33 t109 co33 ∧ some k_ ≠ ob Ao34 t112 co34 ∧ some k_ ≠ ob Ao42 t120 co42 ∧ some k_ ≠ ob Ao43 t123 co43 ∧ some k_ ≠ ob Ao52 t131 co52 ∧ some k_ ≠ ob Ao53 t134 co53 ∧ some k_ ≠ ob Ao63 t142 co63) (.slice Ao64 t145.length co64) t145) := ⟨by subst hW_; (with_reducible repeat (first | apply Kd.R_alloc | apply Kd.R_drewN | apply Kd.R_drew)); exact Kd.R_mono (aG HO147 BK149) bK⟩
        have n8_ : Aside0 (w69.heap[gb101]? = some (.cells #[.int .u64 a0_0, .int .u64 a0_1, .int .u64 a0_2, .slice A0_3 l0_3.length c0_3, .slice A0_4 l0_4.length c0_4] 40 (0, 0))) := ⟨by subst hW_; (with_reducible repeat (first | refine blk_drewN ?_ _ | refine blk_drew ?_ | refine blk_alloc ?_ _)); refine blk_far ?_ NB101_149.out _; (with_reducible repeat (first | refine blk_drewN ?_ _ | refine blk_drew ?_ | refine blk_alloc ?_ _)); refine blk_far ?_ NB101_149.out _; (with_reducible repeat (first | refine blk_drewN ?_ _ | refine blk_drew ?_ | refine blk_alloc ?_ _)); refine blk_far ?_ NB101_149.out _; (with_reducible repeat (first | refine blk_drewN ?_ _ | refine blk_drew ?_ | refine blk_alloc ?_ _)); refine blk_far ?_ NB101_149.out _; (with_reducible repeat (first | refine blk_drewN ?_ _ | refine blk_drew ?_ | refine blk_alloc ?_ _)); refine blk_far ?_ NB101_149.out _; (with_reducible repeat (first | refine blk_drewN ?_ _ | refine blk_drew ?_ | refine blk_alloc ?_ _)); exact BK101.out⟩
        have n9_ : Aside0 (w69.heap[gb102]? = some (.cells #[.int .u64 a1_0, .int .u64 a1_1, .int .u64 a1_2, .slice A1_3 l1_3.length c1_3, .slice A1_4 l1_4.length c1_4] 40 (0, 0))) := ⟨by subst hW_; (with_reducible repeat (first | refine blk_drewN ?_ _ | refine blk_drew ?_ | refine blk_alloc ?_ _)); refine blk_far ?_ NB102_149.out _; (with_reducible repeat (first | refine blk_drewN ?_ _ | refine blk_drew ?_ | refine blk_alloc ?_ _)); refine blk_far ?_ NB102_149.out _; (with_reducible repeat (first | refine blk_drewN ?_ _ | refine blk_drew ?_ | refine blk_alloc ?_ _)); refine blk_far ?_ NB102_149.out _; (with_reducible repeat (first | refine blk_drewN ?_ _ | refine blk_drew ?_ | refine blk_alloc ?_ _)); refine blk_far ?_ NB102_149.out _; (with_reducible repeat (first | refine blk_drewN ?_ _ | refine blk_drew ?_ | refine blk_alloc ?_ _)); refine blk_far ?_ NB102_149.out _; (with_reducible repeat (first | refine blk_drewN ?_ _ | refine blk_drew ?_ | refine blk_alloc ?_ _)); exact BK102.out⟩
        have n10_ : Aside0 (w69.heap[gb116]? = some (.cells #[.int .u64 t106, .int .u64 t107, .int .u64 t108, .slice Ao33 t109.length co33, .slice Ao34 t112.length co34] 40 (0, 0))) := ⟨by subst hW_; (with_reducible repeat (first | refine blk_drewN ?_ _ | refine blk_drew ?_ | refine blk_alloc ?_ _)); refine blk_far ?_ NB116_149.out _; (with_reducible repeat (first | refine blk_drewN ?_ _ | refine blk_drew ?_ | refine blk_alloc ?_ _)); refine blk_far ?_ NB116_149.out _; (with_reducible repeat (first | refine blk_drewN ?_ _ | refine blk_drew ?_ | refine blk_alloc ?_ _)); refine blk_far ?_ NB116_149.out _; (with_reducible repeat (first | refine blk_drewN ?_ _ | refine blk_drew ?_ | refine blk_alloc ?_ _)); refine blk_far ?_ NB116_149.out _; (with_reducible repeat (first | refine blk_drewN ?_ _ | refine blk_drew ?_ | refine blk_alloc ?_ _)); refine blk_far ?_ NB116_149.out _; (with_reducible repeat (first | refine blk_drewN ?_ _ | refine blk_drew ?_ | refine blk_alloc ?_ _)); exact BK116.out⟩
        have n11_ : Aside0 (w69.heap[gb127]? = some (.cells #[.int .u64 t117, .int .u64 t118, .int .u64 t119, .slice Ao42 t120.length co42, .slice Ao43 t123.length co43] 40 (0, 0))) := ⟨by subst hW_; (with_reducible repeat (first | refine blk_drewN ?_ _ | refine blk_drew ?_ | refine blk_alloc ?_ _)); refine blk_far ?_ NB127_149.out _; (with_reducible repeat (first | refine blk_drewN ?_ _ | refine blk_drew ?_ | refine blk_alloc ?_ _)); refine blk_far ?_ NB127_149.out _; (with_reducible repeat (first | refine blk_drewN ?_ _ | refine blk_drew ?_ | refine blk_alloc ?_ _)); refine blk_far ?_ NB127_149.out _; (with_reducible repeat (first | refine blk_drewN ?_ _ | refine blk_drew ?_ | refine blk_alloc ?_ _)); refine blk_far ?_ NB127_149.out _; (with_reducible repeat (first | refine blk_drewN ?_ _ | refine blk_drew ?_ | refine blk_alloc ?_ _)); refine blk_far ?_ NB127_149.out _; (with_reducible repeat (first | refine blk_drewN ?_ _ | refine blk_drew ?_ | refine blk_alloc ?_ _)); exact BK127.out⟩
        have n12_ : Aside0 (w69.heap[gb138]? = some (.cells #[.int .u64 t128, .int .u64 t129, .int .u64 t130, .slice Ao52 t131.length co52, .slice Ao53 t134.length co53] 40 (0, 0))) := ⟨by subst hW_; (with_reducible repeat (first | refine blk_drewN ?_ _ | refine blk_drew ?_ | refine blk_alloc ?_ _)); refine blk_far ?_ NB138_149.out _; (with_reducible repeat (first | refine blk_drewN ?_ _ | refine blk_drew ?_ | refine blk_alloc ?_ _)); refine blk_far ?_ NB138_149.out _; (with_reducible repeat (first | refine blk_drewN ?_ _ | refine blk_drew ?_ | refine blk_alloc ?_ _)); refine blk_far ?_ NB138_149.out _; (with_reducible repeat (first | refine blk_drewN ?_ _ | refine blk_drew ?_ | refine blk_alloc ?_ _)); refine blk_far ?_ NB138_149.out _; (with_reducible repeat (first | refine blk_drewN ?_ _ | refine blk_drew ?_ | refine blk_alloc ?_ _)); refine blk_far ?_ NB138_149.out _; (with_reducible repeat (first | refine blk_drewN ?_ _ | refine blk_drew ?_ | refine blk_alloc ?_ _)); exact BK138.out⟩
        have n13_ : Aside0 (w69.heap[gb149]? = some (.cells #[.int .u64 t139, .int .u64 t140, .int .u64 t141, .slice Ao63 t142.length co63, .slice Ao64 t145.length co64] 40 (0, 0))) := ⟨by subst hW_; (with_reducible repeat (first | refine blk_drewN ?_ _ | refine blk_drew ?_ | refine blk_alloc ?_ _)); refine blk_put (cs := #[.int .u64 t139, .int .u64 t140, .int .u64 t141, .slice Ao63 t142.length co63, .slice none 0 0]) ?_ 4 _ rfl; (with_reducible repeat (first | refine blk_drewN ?_ _ | refine blk_drew ?_ | refine blk_alloc ?_ _)); refine blk_put (cs := #[.int .u64 t139, .int .u64 t140, .int .u64 t141, .slice none 0 0, .slice none 0 0]) ?_ 3 _ rfl; (with_reducible repeat (first | refine blk_drewN ?_ _ | refine blk_drew ?_ | refine blk_alloc ?_ _)); refine blk_put (cs := #[.int .u64 t139, .int .u64 t140, .int .u64 0, .slice none 0 0, .slice none 0 0]) ?_ 2 _ rfl; (with_reducible repeat (first | refine blk_drewN ?_ _ | refine blk_drew ?_ | refine blk_alloc ?_ _)); refine blk_put (cs := #[.int .u64 t139, .int .u64 0, .int .u64 0, .slice none 0 0, .slice none 0 0]) ?_ 1 _ rfl; (with_reducible repeat (first | refine blk_drewN ?_ _ | refine blk_drew ?_ | refine blk_alloc ?_ _)); refine blk_put (cs := #[.int .u64 0, .int .u64 0, .int .u64 0, .slice none 0 0, .slice none 0 0]) ?_ 0 _ rfl; (with_reducible repeat (first | refine blk_drewN ?_ _ | refine blk_drew ?_ | refine blk_alloc ?_ _)); exact BK149.out⟩
        have n14_ : Aside0 (Below w.heap.size w w69) := ⟨by subst hW_; exact bB⟩
        (try clear HO111)
        (try clear HO114)
        (try clear HO122)
        (try clear HO125)
        (try clear HO133)
        (try clear HO136)
        (try clear HO144)
        (try clear HO147)
        (try clear BK101)
        (try clear BK102)
        (try clear BK116)
        (try clear BK127)
        (try clear BK138)
        (try clear BK149)
        (try clear HB)
        clear hW_
        have HO111 := n0_
        have HO114 := n1_
        have HO122 := n2_
        have HO125 := n3_
        have HO133 := n4_
        have HO136 := n5_
        have HO144 := n6_
        have HO147 := n7_
        have BK101 := n8_
        have BK102 := n9_
        have BK116 := n10_
        have BK127 := n11_
        have BK138 := n12_
        have BK149 := n13_
        have HB := n14_
        clear n0_ n1_ n2_ n3_ n4_ n5_ n6_ n7_ n8_ n9_ n10_ n11_ n12_ n13_ n14_
        replace HO111 := Aside0.mk (Kd.R_drew HO111.out)
        replace HO114 := Aside0.mk (Kd.R_drew HO114.out)
        replace HO122 := Aside0.mk (Kd.R_drew HO122.out)
        replace HO125 := Aside0.mk (Kd.R_drew HO125.out)
        replace HO133 := Aside0.mk (Kd.R_drew HO133.out)
        replace HO136 := Aside0.mk (Kd.R_drew HO136.out)
        replace HO144 := Aside0.mk (Kd.R_drew HO144.out)
        replace HO147 := Aside0.mk (Kd.R_drew HO147.out)
        replace BK101 := Aside0.mk (blk_drew BK101.out)
        replace BK102 := Aside0.mk (blk_drew BK102.out)
        replace BK116 := Aside0.mk (blk_drew BK116.out)
        replace BK127 := Aside0.mk (blk_drew BK127.out)
        replace BK138 := Aside0.mk (blk_drew BK138.out)
        replace BK149 := Aside0.mk (blk_drew BK149.out)
        replace HB := Aside0.mk (below_drew1 HB.out)
        refine start_ (n := 38) (S := fun w' => True) (ds := []) #[false, false, false, false, false, false, false, false, false, false, false, false, false, false, false, false, false, false, false, false, false, false, false, false, false, false, false, false, false, false, false, false, false, false, false, false, false, false] (by kernel_rfl) rfl rfl trivial (fun hHeld => ?_); refine with_tabW ferrulelaw04_PrecEnds.tab9 ferrulelaw04_PrecEnds.bits9 (fun HT_ HW_ => ?_)
        generalize w69.drew = w70 at HO111 HO114 HO122 HO125 HO133 HO136 HO144 HO147 BK101 BK102 BK116 BK127 BK138 BK149 HB hHeld ⊢
        refine pV 0 43 rfl rfl ?_
        refine pV 1 44 rfl rfl ?_
        refine pV 2 45 rfl rfl ?_
        refine pV 3 46 rfl rfl ?_
        refine pV 4 47 rfl rfl ?_
        refine pV 5 48 rfl rfl ?_
        refine pV 6 49 rfl rfl ?_
        refine pV 7 50 rfl rfl ?_
        refine pV 8 51 rfl rfl ?_
        refine pU 9 52 rfl rfl ?_
        refine pU 10 53 rfl rfl ?_
        refine pU 11 54 rfl rfl ?_
        refine pU 12 55 rfl rfl ?_
        refine pV 13 56 rfl rfl ?_
        refine pV 14 57 rfl rfl ?_
        refine pU 15 58 rfl rfl ?_
        refine pU 16 59 rfl rfl ?_
        refine pU 17 60 rfl rfl ?_
        refine pU 18 61 rfl rfl ?_
        refine pV 19 62 rfl rfl ?_
        refine pV 20 63 rfl rfl ?_
        refine pU 21 64 rfl rfl ?_
        refine pU 22 65 rfl rfl ?_
        refine pU 23 66 rfl rfl ?_
        refine pU 24 67 rfl rfl ?_
        refine pU 25 68 rfl rfl ?_
        refine pU 26 69 rfl rfl ?_
        refine pU 27 70 rfl rfl ?_
        refine pU 28 71 rfl rfl ?_
        refine pU 29 72 rfl rfl ?_
        refine pU 30 73 rfl rfl ?_
        refine pU 31 74 rfl rfl ?_
        refine pU 32 75 rfl rfl ?_
        refine pU 33 76 rfl rfl ?_
        refine pU 34 77 rfl rfl ?_
        refine pU 35 78 rfl rfl ?_
        refine pU 36 79 rfl rfl ?_
        refine pV 37 80 rfl rfl ?_
        refine done_ (done_of HT_.out (by kernel_rfl)) ?_
        try go_wp2
        go_meet
        case rel => exact ⟨_, (true), bS, H', ⟨by have := HJ4.out; first | omega | exact Nat.le_refl _⟩, ⟨aRw HO111⟩, ⟨aRw HO114⟩, ⟨aRw HO122⟩, ⟨aRw HO125⟩, ⟨aRw HO133⟩, ⟨aRw HO136⟩, ⟨aRw HO144⟩, ⟨aRw HO147⟩, ⟨aKw BK101⟩, ⟨aKw BK102⟩, ⟨aKw BK116⟩, ⟨aKw BK127⟩, ⟨aKw BK138⟩, ⟨aKw BK149⟩, ⟨bB⟩⟩
       ·rw [if_neg c68] at H
        have c68b0 : (t126 != t148) = false := by simpa using c68
        (try (have c68b1 : decide (t126 = t148) = true := by simpa using c68))
        (try (have c68b2 : (t126 == t148) = true := by simpa using c68))
        clear c68
        replace H := Option.bind_eq_some_iff.mp H
        obtain ⟨t150, A710, H⟩ := H
        replace H : (if t150 = true then ((ferruleref03_Same.f kj4 t117 t118 t119 t120 t123 t139 t140 t141 t142 t145).bind fun t151 => (if t151 = true then ((prec_First.f a0_0 a0_1 a0_2).bind fun bt152 => ((ferruleref04_First.f a0_0 a0_1 a0_2).bind fun bt161 => ((ferruleref03_Same.f kj4 bt152.1 bt152.2.1 bt152.2.2.1 bt152.2.2.2.1 bt152.2.2.2.2 bt161.1 bt161.2.1 bt161.2.2.1 bt161.2.2.2.1 bt161.2.2.2.2).bind fun t170 => (ferrulelaw04_PrecEnds.j1 kj4 t115 t126 (!t170) a0_0 a0_1 a0_2 l0_3 l0_4 a1_0 a1_1 a1_2 l1_3 l1_4 t106 t107 t108 t109 t112 t117 t118 t119 t120 t123)))) else (ferrulelaw04_PrecEnds.j1 kj4 t115 t126 true a0_0 a0_1 a0_2 l0_3 l0_4 a1_0 a1_1 a1_2 l1_3 l1_4 t106 t107 t108 t109 t112 t117 t118 t119 t120 t123))) else (ferrulelaw04_PrecEnds.j1 kj4 t115 t126 true a0_0 a0_1 a0_2 l0_3 l0_4 a1_0 a1_1 a1_2 l1_3 l1_4 t106 t107 t108 t109 t112 t117 t118 t119 t120 t123)) = some r := H
        have A71 := Aside0.mk A710
        clear A710
        by_cases c72 : t150 = true
        ·subst c72
         have H1 : ((ferruleref03_Same.f kj4 t117 t118 t119 t120 t123 t139 t140 t141 t142 t145).bind fun t151 => (if t151 = true then ((prec_First.f a0_0 a0_1 a0_2).bind fun bt152 => ((ferruleref04_First.f a0_0 a0_1 a0_2).bind fun bt161 => ((ferruleref03_Same.f kj4 bt152.1 bt152.2.1 bt152.2.2.1 bt152.2.2.2.1 bt152.2.2.2.2 bt161.1 bt161.2.1 bt161.2.2.1 bt161.2.2.2.1 bt161.2.2.2.2).bind fun t170 => (ferrulelaw04_PrecEnds.j1 kj4 t115 t126 (!t170) a0_0 a0_1 a0_2 l0_3 l0_4 a1_0 a1_1 a1_2 l1_3 l1_4 t106 t107 t108 t109 t112 t117 t118 t119 t120 t123)))) else (ferrulelaw04_PrecEnds.j1 kj4 t115 t126 true a0_0 a0_1 a0_2 l0_3 l0_4 a1_0 a1_1 a1_2 l1_3 l1_4 t106 t107 t108 t109 t112 t117 t118 t119 t120 t123))) = some r := by rw [if_pos rfl] at H; exact H
         clear H
         have H := H1
         clear H1
         replace H := Option.bind_eq_some_iff.mp H
         obtain ⟨t151, A730, H⟩ := H
         replace H : (if t151 = true then ((prec_First.f a0_0 a0_1 a0_2).bind fun bt152 => ((ferruleref04_First.f a0_0 a0_1 a0_2).bind fun bt161 => ((ferruleref03_Same.f kj4 bt152.1 bt152.2.1 bt152.2.2.1 bt152.2.2.2.1 bt152.2.2.2.2 bt161.1 bt161.2.1 bt161.2.2.1 bt161.2.2.2.1 bt161.2.2.2.2).bind fun t170 => (ferrulelaw04_PrecEnds.j1 kj4 t115 t126 (!t170) a0_0 a0_1 a0_2 l0_3 l0_4 a1_0 a1_1 a1_2 l1_3 l1_4 t106 t107 t108 t109 t112 t117 t118 t119 t120 t123)))) else (ferrulelaw04_PrecEnds.j1 kj4 t115 t126 true a0_0 a0_1 a0_2 l0_3 l0_4 a1_0 a1_1 a1_2 l1_3 l1_4 t106 t107 t108 t109 t112 t117 t118 t119 t120 t123)) = some r := H
         have A73 := Aside0.mk A730
         clear A730
         by_cases c74 : t151 = true
         ·subst c74
          have H1 : ((prec_First.f a0_0 a0_1 a0_2).bind fun bt152 => ((ferruleref04_First.f a0_0 a0_1 a0_2).bind fun bt161 => ((ferruleref03_Same.f kj4 bt152.1 bt152.2.1 bt152.2.2.1 bt152.2.2.2.1 bt152.2.2.2.2 bt161.1 bt161.2.1 bt161.2.2.1 bt161.2.2.2.1 bt161.2.2.2.2).bind fun t170 => (ferrulelaw04_PrecEnds.j1 kj4 t115 t126 (!t170) a0_0 a0_1 a0_2 l0_3 l0_4 a1_0 a1_1 a1_2 l1_3 l1_4 t106 t107 t108 t109 t112 t117 t118 t119 t120 t123)))) = some r := by rw [if_pos rfl] at H; exact H
          clear H
          have H := H1
          clear H1
          replace H := Option.bind_eq_some_iff.mp H
          obtain ⟨⟨t152, t153, t154, t155, t158⟩, A750, H⟩ := H
          replace H : ((ferruleref04_First.f a0_0 a0_1 a0_2).bind fun bt161 => ((ferruleref03_Same.f kj4 t152 t153 t154 t155 t158 bt161.1 bt161.2.1 bt161.2.2.1 bt161.2.2.2.1 bt161.2.2.2.2).bind fun t170 => (ferrulelaw04_PrecEnds.j1 kj4 t115 t126 (!t170) a0_0 a0_1 a0_2 l0_3 l0_4 a1_0 a1_1 a1_2 l1_3 l1_4 t106 t107 t108 t109 t112 t117 t118 t119 t120 t123))) = some r := H
          have A75 := Aside0.mk A750
          clear A750
          replace H := Option.bind_eq_some_iff.mp H
          obtain ⟨⟨t161, t162, t163, t164, t167⟩, A760, H⟩ := H
          replace H : ((ferruleref03_Same.f kj4 t152 t153 t154 t155 t158 t161 t162 t163 t164 t167).bind fun t170 => (ferrulelaw04_PrecEnds.j1 kj4 t115 t126 (!t170) a0_0 a0_1 a0_2 l0_3 l0_4 a1_0 a1_1 a1_2 l1_3 l1_4 t106 t107 t108 t109 t112 t117 t118 t119 t120 t123)) = some r := H
          have A76 := Aside0.mk A760
          clear A760
          replace H := Option.bind_eq_some_iff.mp H
          obtain ⟨t170, A770, H⟩ := H
          replace H : (ferrulelaw04_PrecEnds.j1 kj4 t115 t126 (!t170) a0_0 a0_1 a0_2 l0_3 l0_4 a1_0 a1_1 a1_2 l1_3 l1_4 t106 t107 t108 t109 t112 t117 t118 t119 t120 t123) = some r := H
          have A77 := Aside0.mk A770
          clear A770
          have H' := Aside0.mk H
          clear H
          try go_wp2
          generalize hW_ : (((((w56.setCell ⟨gb149, 0, none⟩ (.int .u64 t139)).setCell ⟨gb149, 1, none⟩ (.int .u64 t140)).setCell ⟨gb149, 2, none⟩ (.int .u64 t141)).setCell ⟨gb149, 3, none⟩ (.slice Ao63 t142.length co63)).setCell ⟨gb149, 4, none⟩ (.slice Ao64 t145.length co64)) = w78
          have n0_ : Aside0 (Kd.R Kd.string 9 w78 w.heap.size (fun k_ => some k_ ≠ ob Ao34 t112 co34 ∧ some k_ ≠ ob Ao42 t120 co42 ∧ some k_ ≠ ob Ao43 t123 co43 ∧ some k_ ≠ ob Ao52 t131 co52 ∧ some k_ ≠ ob Ao53 t134 co53 ∧ some k_ ≠ ob Ao63 t142 co63 ∧ some k_ ≠ ob Ao64 t145 co64) (.slice Ao33 t109.length co33) t109) := ⟨by subst hW_; (with_reducible repeat (first | apply Kd.R_alloc | apply Kd.R_drewN | apply Kd.R_drew)); exact Kd.R_mono (aG HO111 BK149) bK⟩
          have n1_ : Aside0 (Kd.R Kd.string 9 w78 w.heap.size (fun k_ => some k_ ≠ ob Ao33 t109 co33 ∧ some k_ ≠ ob Ao42 t120 co42 ∧ some k_ ≠ ob Ao43 t123 co43 ∧ some k_ ≠ ob Ao52 t131 co52 ∧ some k_ ≠ ob Ao53 t134 co53 ∧ some k_ ≠ ob Ao63 t142 co63 ∧ some k_ ≠ ob Ao64 t145 co64) (.slice Ao34 t112.length co34) t112) := ⟨by subst hW_; (with_reducible repeat (first | apply Kd.R_alloc | apply Kd.R_drewN | apply Kd.R_drew)); exact Kd.R_mono (aG HO114 BK149) bK⟩
          have n2_ : Aside0 (Kd.R Kd.string 9 w78 w.heap.size (fun k_ => some k_ ≠ ob Ao33 t109 co33 ∧ some k_ ≠ ob Ao34 t112 co34 ∧ some k_ ≠ ob Ao43 t123 co43 ∧ some k_ ≠ ob Ao52 t131 co52 ∧ some k_ ≠ ob Ao53 t134 co53 ∧ some k_ ≠ ob Ao63 t142 co63 ∧ some k_ ≠ ob Ao64 t145 co64) (.slice Ao42 t120.length co42) t120) := ⟨by subst hW_; (with_reducible repeat (first | apply Kd.R_alloc | apply Kd.R_drewN | apply Kd.R_drew)); exact Kd.R_mono (aG HO122 BK149) bK⟩
          have n3_ : Aside0 (Kd.R Kd.string 9 w78 w.heap.size (fun k_ => some k_ ≠ ob Ao33 t109 co33 ∧ some k_ ≠ ob Ao34 t112 co34 ∧ some k_ ≠ ob Ao42 t120 co42 ∧ some k_ ≠ ob Ao52 t131 co52 ∧ some k_ ≠ ob Ao53 t134 co53 ∧ some k_ ≠ ob Ao63 t142 co63 ∧ some k_ ≠ ob Ao64 t145 co64) (.slice Ao43 t123.length co43) t123) := ⟨by subst hW_; (with_reducible repeat (first | apply Kd.R_alloc | apply Kd.R_drewN | apply Kd.R_drew)); exact Kd.R_mono (aG HO125 BK149) bK⟩
          have n4_ : Aside0 (Kd.R Kd.string 9 w78 w.heap.size (fun k_ => some k_ ≠ ob Ao33 t109 co33 ∧ some k_ ≠ ob Ao34 t112 co34 ∧ some k_ ≠ ob Ao42 t120 co42 ∧ some k_ ≠ ob Ao43 t123 co43 ∧ some k_ ≠ ob Ao53 t134 co53 ∧ some k_ ≠ ob Ao63 t142 co63 ∧ some k_ ≠ ob Ao64 t145 co64) (.slice Ao52 t131.length co52) t131) := ⟨by subst hW_; (with_reducible repeat (first | apply Kd.R_alloc | apply Kd.R_drewN | apply Kd.R_drew)); exact Kd.R_mono (aG HO133 BK149) bK⟩
          have n5_ : Aside0 (Kd.R Kd.string 9 w78 w.heap.size (fun k_ => some k_ ≠ ob Ao33 t109 co33 ∧ some k_ ≠ ob Ao34 t112 co34 ∧ some k_ ≠ ob Ao42 t120 co42 ∧ some k_ ≠ ob Ao43 t123 co43 ∧ some k_ ≠ ob Ao52 t131 co52 ∧ some k_ ≠ ob Ao63 t142 co63 ∧ some k_ ≠ ob Ao64 t145 co64) (.slice Ao53 t134.length co53) t134) := ⟨by subst hW_; (with_reducible repeat (first | apply Kd.R_alloc | apply Kd.R_drewN | apply Kd.R_drew)); exact Kd.R_mono (aG HO136 BK149) bK⟩
          have n6_ : Aside0 (Kd.R Kd.string 9 w78 w.heap.size (fun k_ => some k_ ≠ ob Ao33 t109 co33 ∧ some k_ ≠ ob Ao34 t112 co34 ∧ some k_ ≠ ob Ao42 t120 co42 ∧ some k_ ≠ ob Ao43 t123 co43 ∧ some k_ ≠ ob Ao52 t131 co52 ∧ some k_ ≠ ob Ao53 t134 co53 ∧ some k_ ≠ ob Ao64 t145 co64) (.slice Ao63 t142.length co63) t142) := ⟨by subst hW_; (with_reducible repeat (first | apply Kd.R_alloc | apply Kd.R_drewN | apply Kd.R_drew)); exact Kd.R_mono (aG HO144 BK149) bK⟩
          have n7_ : Aside0 (Kd.R Kd.string 9 w78 w.heap.size (fun k_ => some k_ ≠ ob Ao33 t109 co33 ∧ some k_ ≠ ob Ao34 t112 co34 ∧ some k_ ≠ ob Ao42 t120 co42 ∧ some k_ ≠ ob Ao43 t123 co43 ∧ some k_ ≠ ob Ao52 t131 co52 ∧ some k_ ≠ ob Ao53 t134 co53 ∧ some k_ ≠ ob Ao63 t142 co63) (.slice Ao64 t145.length co64) t145) := ⟨by subst hW_; (with_reducible repeat (first | apply Kd.R_alloc | apply Kd.R_drewN | apply Kd.R_drew)); exact Kd.R_mono (aG HO147 BK149) bK⟩
          have n8_ : Aside0 (w78.heap[gb101]? = some (.cells #[.int .u64 a0_0, .int .u64 a0_1, .int .u64 a0_2, .slice A0_3 l0_3.length c0_3, .slice A0_4 l0_4.length c0_4] 40 (0, 0))) := ⟨by subst hW_; (with_reducible repeat (first | refine blk_drewN ?_ _ | refine blk_drew ?_ | refine blk_alloc ?_ _)); refine blk_far ?_ NB101_149.out _; (with_reducible repeat (first | refine blk_drewN ?_ _ | refine blk_drew ?_ | refine blk_alloc ?_ _)); refine blk_far ?_ NB101_149.out _; (with_reducible repeat (first | refine blk_drewN ?_ _ | refine blk_drew ?_ | refine blk_alloc ?_ _)); refine blk_far ?_ NB101_149.out _; (with_reducible repeat (first | refine blk_drewN ?_ _ | refine blk_drew ?_ | refine blk_alloc ?_ _)); refine blk_far ?_ NB101_149.out _; (with_reducible repeat (first | refine blk_drewN ?_ _ | refine blk_drew ?_ | refine blk_alloc ?_ _)); refine blk_far ?_ NB101_149.out _; (with_reducible repeat (first | refine blk_drewN ?_ _ | refine blk_drew ?_ | refine blk_alloc ?_ _)); exact BK101.out⟩
          have n9_ : Aside0 (w78.heap[gb102]? = some (.cells #[.int .u64 a1_0, .int .u64 a1_1, .int .u64 a1_2, .slice A1_3 l1_3.length c1_3, .slice A1_4 l1_4.length c1_4] 40 (0, 0))) := ⟨by subst hW_; (with_reducible repeat (first | refine blk_drewN ?_ _ | refine blk_drew ?_ | refine blk_alloc ?_ _)); refine blk_far ?_ NB102_149.out _; (with_reducible repeat (first | refine blk_drewN ?_ _ | refine blk_drew ?_ | refine blk_alloc ?_ _)); refine blk_far ?_ NB102_149.out _; (with_reducible repeat (first | refine blk_drewN ?_ _ | refine blk_drew ?_ | refine blk_alloc ?_ _)); refine blk_far ?_ NB102_149.out _; (with_reducible repeat (first | refine blk_drewN ?_ _ | refine blk_drew ?_ | refine blk_alloc ?_ _)); refine blk_far ?_ NB102_149.out _; (with_reducible repeat (first | refine blk_drewN ?_ _ | refine blk_drew ?_ | refine blk_alloc ?_ _)); refine blk_far ?_ NB102_149.out _; (with_reducible repeat (first | refine blk_drewN ?_ _ | refine blk_drew ?_ | refine blk_alloc ?_ _)); exact BK102.out⟩
          have n10_ : Aside0 (w78.heap[gb116]? = some (.cells #[.int .u64 t106, .int .u64 t107, .int .u64 t108, .slice Ao33 t109.length co33, .slice Ao34 t112.length co34] 40 (0, 0))) := ⟨by subst hW_; (with_reducible repeat (first | refine blk_drewN ?_ _ | refine blk_drew ?_ | refine blk_alloc ?_ _)); refine blk_far ?_ NB116_149.out _; (with_reducible repeat (first | refine blk_drewN ?_ _ | refine blk_drew ?_ | refine blk_alloc ?_ _)); refine blk_far ?_ NB116_149.out _; (with_reducible repeat (first | refine blk_drewN ?_ _ | refine blk_drew ?_ | refine blk_alloc ?_ _)); refine blk_far ?_ NB116_149.out _; (with_reducible repeat (first | refine blk_drewN ?_ _ | refine blk_drew ?_ | refine blk_alloc ?_ _)); refine blk_far ?_ NB116_149.out _; (with_reducible repeat (first | refine blk_drewN ?_ _ | refine blk_drew ?_ | refine blk_alloc ?_ _)); refine blk_far ?_ NB116_149.out _; (with_reducible repeat (first | refine blk_drewN ?_ _ | refine blk_drew ?_ | refine blk_alloc ?_ _)); exact BK116.out⟩
          have n11_ : Aside0 (w78.heap[gb127]? = some (.cells #[.int .u64 t117, .int .u64 t118, .int .u64 t119, .slice Ao42 t120.length co42, .slice Ao43 t123.length co43] 40 (0, 0))) := ⟨by subst hW_; (with_reducible repeat (first | refine blk_drewN ?_ _ | refine blk_drew ?_ | refine blk_alloc ?_ _)); refine blk_far ?_ NB127_149.out _; (with_reducible repeat (first | refine blk_drewN ?_ _ | refine blk_drew ?_ | refine blk_alloc ?_ _)); refine blk_far ?_ NB127_149.out _; (with_reducible repeat (first | refine blk_drewN ?_ _ | refine blk_drew ?_ | refine blk_alloc ?_ _)); refine blk_far ?_ NB127_149.out _; (with_reducible repeat (first | refine blk_drewN ?_ _ | refine blk_drew ?_ | refine blk_alloc ?_ _)); refine blk_far ?_ NB127_149.out _; (with_reducible repeat (first | refine blk_drewN ?_ _ | refine blk_drew ?_ | refine blk_alloc ?_ _)); refine blk_far ?_ NB127_149.out _; (with_reducible repeat (first | refine blk_drewN ?_ _ | refine blk_drew ?_ | refine blk_alloc ?_ _)); exact BK127.out⟩
          have n12_ : Aside0 (w78.heap[gb138]? = some (.cells #[.int .u64 t128, .int .u64 t129, .int .u64 t130, .slice Ao52 t131.length co52, .slice Ao53 t134.length co53] 40 (0, 0))) := ⟨by subst hW_; (with_reducible repeat (first | refine blk_drewN ?_ _ | refine blk_drew ?_ | refine blk_alloc ?_ _)); refine blk_far ?_ NB138_149.out _; (with_reducible repeat (first | refine blk_drewN ?_ _ | refine blk_drew ?_ | refine blk_alloc ?_ _)); refine blk_far ?_ NB138_149.out _; (with_reducible repeat (first | refine blk_drewN ?_ _ | refine blk_drew ?_ | refine blk_alloc ?_ _)); refine blk_far ?_ NB138_149.out _; (with_reducible repeat (first | refine blk_drewN ?_ _ | refine blk_drew ?_ | refine blk_alloc ?_ _)); refine blk_far ?_ NB138_149.out _; (with_reducible repeat (first | refine blk_drewN ?_ _ | refine blk_drew ?_ | refine blk_alloc ?_ _)); refine blk_far ?_ NB138_149.out _; (with_reducible repeat (first | refine blk_drewN ?_ _ | refine blk_drew ?_ | refine blk_alloc ?_ _)); exact BK138.out⟩
          have n13_ : Aside0 (w78.heap[gb149]? = some (.cells #[.int .u64 t139, .int .u64 t140, .int .u64 t141, .slice Ao63 t142.length co63, .slice Ao64 t145.length co64] 40 (0, 0))) := ⟨by subst hW_; (with_reducible repeat (first | refine blk_drewN ?_ _ | refine blk_drew ?_ | refine blk_alloc ?_ _)); refine blk_put (cs := #[.int .u64 t139, .int .u64 t140, .int .u64 t141, .slice Ao63 t142.length co63, .slice none 0 0]) ?_ 4 _ rfl; (with_reducible repeat (first | refine blk_drewN ?_ _ | refine blk_drew ?_ | refine blk_alloc ?_ _)); refine blk_put (cs := #[.int .u64 t139, .int .u64 t140, .int .u64 t141, .slice none 0 0, .slice none 0 0]) ?_ 3 _ rfl; (with_reducible repeat (first | refine blk_drewN ?_ _ | refine blk_drew ?_ | refine blk_alloc ?_ _)); refine blk_put (cs := #[.int .u64 t139, .int .u64 t140, .int .u64 0, .slice none 0 0, .slice none 0 0]) ?_ 2 _ rfl; (with_reducible repeat (first | refine blk_drewN ?_ _ | refine blk_drew ?_ | refine blk_alloc ?_ _)); refine blk_put (cs := #[.int .u64 t139, .int .u64 0, .int .u64 0, .slice none 0 0, .slice none 0 0]) ?_ 1 _ rfl; (with_reducible repeat (first | refine blk_drewN ?_ _ | refine blk_drew ?_ | refine blk_alloc ?_ _)); refine blk_put (cs := #[.int .u64 0, .int .u64 0, .int .u64 0, .slice none 0 0, .slice none 0 0]) ?_ 0 _ rfl; (with_reducible repeat (first | refine blk_drewN ?_ _ | refine blk_drew ?_ | refine blk_alloc ?_ _)); exact BK149.out⟩
          have n14_ : Aside0 (Below w.heap.size w w78) := ⟨by subst hW_; exact bB⟩
          (try clear HO111)
          (try clear HO114)
          (try clear HO122)
          (try clear HO125)
          (try clear HO133)
          (try clear HO136)
          (try clear HO144)
          (try clear HO147)
          (try clear BK101)
          (try clear BK102)
          (try clear BK116)
          (try clear BK127)
          (try clear BK138)
          (try clear BK149)
          (try clear HB)
          clear hW_
          have HO111 := n0_
          have HO114 := n1_
          have HO122 := n2_
          have HO125 := n3_
          have HO133 := n4_
          have HO136 := n5_
          have HO144 := n6_
          have HO147 := n7_
          have BK101 := n8_
          have BK102 := n9_
          have BK116 := n10_
          have BK127 := n11_
          have BK138 := n12_
          have BK149 := n13_
          have HB := n14_
          clear n0_ n1_ n2_ n3_ n4_ n5_ n6_ n7_ n8_ n9_ n10_ n11_ n12_ n13_ n14_
          replace HO111 := Aside0.mk (Kd.R_drew HO111.out)
          replace HO114 := Aside0.mk (Kd.R_drew HO114.out)
          replace HO122 := Aside0.mk (Kd.R_drew HO122.out)
          replace HO125 := Aside0.mk (Kd.R_drew HO125.out)
          replace HO133 := Aside0.mk (Kd.R_drew HO133.out)
          replace HO136 := Aside0.mk (Kd.R_drew HO136.out)
          replace HO144 := Aside0.mk (Kd.R_drew HO144.out)
          replace HO147 := Aside0.mk (Kd.R_drew HO147.out)
          replace BK101 := Aside0.mk (blk_drew BK101.out)
          replace BK102 := Aside0.mk (blk_drew BK102.out)
          replace BK116 := Aside0.mk (blk_drew BK116.out)
          replace BK127 := Aside0.mk (blk_drew BK127.out)
          replace BK138 := Aside0.mk (blk_drew BK138.out)
          replace BK149 := Aside0.mk (blk_drew BK149.out)
          replace HB := Aside0.mk (below_drew1 HB.out)
          refine start_ (n := 38) (S := fun w' => w'.cell? ⟨gb116, 0, none⟩ = some (.int .u64 t106) ∧ w'.cell? ⟨gb116, 1, none⟩ = some (.int .u64 t107) ∧ w'.cell? ⟨gb116, 2, none⟩ = some (.int .u64 t108) ∧ w'.cell? ⟨gb116, 3, none⟩ = some (.slice Ao33 t109.length co33) ∧ w'.cell? ⟨gb116, 4, none⟩ = some (.slice Ao34 t112.length co34) ∧ w'.cell? ⟨gb138, 0, none⟩ = some (.int .u64 t128) ∧ w'.cell? ⟨gb138, 1, none⟩ = some (.int .u64 t129) ∧ w'.cell? ⟨gb138, 2, none⟩ = some (.int .u64 t130) ∧ w'.cell? ⟨gb138, 3, none⟩ = some (.slice Ao52 t131.length co52) ∧ w'.cell? ⟨gb138, 4, none⟩ = some (.slice Ao53 t134.length co53) ∧ w'.cell? ⟨gb127, 0, none⟩ = some (.int .u64 t117) ∧ w'.cell? ⟨gb127, 1, none⟩ = some (.int .u64 t118) ∧ w'.cell? ⟨gb127, 2, none⟩ = some (.int .u64 t119) ∧ w'.cell? ⟨gb127, 3, none⟩ = some (.slice Ao42 t120.length co42) ∧ w'.cell? ⟨gb127, 4, none⟩ = some (.slice Ao43 t123.length co43) ∧ w'.cell? ⟨gb149, 0, none⟩ = some (.int .u64 t139) ∧ w'.cell? ⟨gb149, 1, none⟩ = some (.int .u64 t140) ∧ w'.cell? ⟨gb149, 2, none⟩ = some (.int .u64 t141) ∧ w'.cell? ⟨gb149, 3, none⟩ = some (.slice Ao63 t142.length co63) ∧ w'.cell? ⟨gb149, 4, none⟩ = some (.slice Ao64 t145.length co64) ∧ w'.cell? ⟨gb101, 0, none⟩ = some (.int .u64 a0_0) ∧ w'.cell? ⟨gb101, 1, none⟩ = some (.int .u64 a0_1) ∧ w'.cell? ⟨gb101, 2, none⟩ = some (.int .u64 a0_2) ∧ w'.cell? ⟨gb101, 3, none⟩ = some (.slice A0_3 l0_3.length c0_3) ∧ w'.cell? ⟨gb101, 4, none⟩ = some (.slice A0_4 l0_4.length c0_4)) (ds := []) #[false, false, false, false, false, false, false, false, false, false, false, false, false, false, false, false, false, false, false, false, false, false, false, false, false, false, false, false, false, false, false, false, false, false, false, false, false, false] (by kernel_rfl) rfl rfl ⟨(blk_cell BK116.out 0).trans rfl, (blk_cell BK116.out 1).trans rfl, (blk_cell BK116.out 2).trans rfl, (blk_cell BK116.out 3).trans rfl, (blk_cell BK116.out 4).trans rfl, (blk_cell BK138.out 0).trans rfl, (blk_cell BK138.out 1).trans rfl, (blk_cell BK138.out 2).trans rfl, (blk_cell BK138.out 3).trans rfl, (blk_cell BK138.out 4).trans rfl, (blk_cell BK127.out 0).trans rfl, (blk_cell BK127.out 1).trans rfl, (blk_cell BK127.out 2).trans rfl, (blk_cell BK127.out 3).trans rfl, (blk_cell BK127.out 4).trans rfl, (blk_cell BK149.out 0).trans rfl, (blk_cell BK149.out 1).trans rfl, (blk_cell BK149.out 2).trans rfl, (blk_cell BK149.out 3).trans rfl, (blk_cell BK149.out 4).trans rfl, (blk_cell BK101.out 0).trans rfl, (blk_cell BK101.out 1).trans rfl, (blk_cell BK101.out 2).trans rfl, (blk_cell BK101.out 3).trans rfl, (blk_cell BK101.out 4).trans rfl⟩ (fun hHeld => ?_); refine with_tabW ferrulelaw04_PrecEnds.tab9 ferrulelaw04_PrecEnds.bits9 (fun HT_ HW_ => ?_)
          generalize w78.drew = w79 at HO111 HO114 HO122 HO125 HO133 HO136 HO144 HO147 BK101 BK102 BK116 BK127 BK138 BK149 HB hHeld ⊢
          refine pV 0 43 rfl rfl ?_
          refine pV 1 44 rfl rfl ?_
          refine pV 2 45 rfl rfl ?_
          refine pV 3 46 rfl rfl ?_
          refine pV 4 47 rfl rfl ?_
          refine pV 5 48 rfl rfl ?_
          refine pV 6 49 rfl rfl ?_
          refine pV 7 50 rfl rfl ?_
          refine pV 8 51 rfl rfl ?_
          refine tV 9 52 rfl rfl ?_
          refine tV 10 53 rfl rfl ?_
          refine one_ (i := 11) (N := some 54) #[true, true, true, true, true, true, true, true, true, true, true, true, false, false, false, false, false, false, false, false, false, false, false, false, false, false, false, false, false, false, false, false, false, false, false, false, false, false] rfl rfl (one_of HT_.out (by kernel_rfl)) (by decide) (fun K hK => ?_)
          refine goes_ Tryd.func27 (by kernel_rfl) rfl #[.agg #[.int .u64 t106, .int .u64 t107, .int .u64 t108, .slice Ao33 t109.length co33, .slice Ao34 t112.length co34], .agg #[.int .u64 t128, .int .u64 t129, .int .u64 t130, .slice Ao52 t131.length co52, .slice Ao53 t134.length co53]] (by rfl) rfl rfl bM ?_
          with_reducible refine (ferruleref03_Same.calls kj4 t106 t107 t108 _ _ t109 _ _ t112 t128 t129 t130 _ _ t131 _ _ t134 true _ ?side1 ?side2 ?side3 ?side4 ?side5 ?side6 ?side7 ?side8 A71.out).mono ?_
          (case side1 => exact sW (Kd.R_reads' HO111.out).2.2)
          (case side2 => exact (Kd.R_reads' HO111.out).2.1)
          (case side3 => exact sW (Kd.R_reads' HO114.out).2.2)
          (case side4 => exact (Kd.R_reads' HO114.out).2.1)
          (case side5 => exact sW (Kd.R_reads' HO133.out).2.2)
          (case side6 => exact (Kd.R_reads' HO133.out).2.1)
          (case side7 => exact sW (Kd.R_reads' HO136.out).2.2)
          (case side8 => exact (Kd.R_reads' HO136.out).2.1)
          rintro e w80 ⟨rfl, hb⟩
          refine ⟨_, rfl, ?_⟩
          replace HO111 := aR HO111 hb
          replace HO114 := aR HO114 hb
          replace HO122 := aR HO122 hb
          replace HO125 := aR HO125 hb
          replace HO133 := aR HO133 hb
          replace HO136 := aR HO136 hb
          replace HO144 := aR HO144 hb
          replace HO147 := aR HO147 hb
          replace BK101 := aK BK101 hb
          replace BK102 := aK BK102 hb
          replace BK116 := aK BK116 hb
          replace BK127 := aK BK127 hb
          replace BK138 := aK BK138 hb
          replace BK149 := aK BK149 hb
          replace HB := aB HB hb
          (try clear hb)
          (try clear hb2)
          (try clear hk)
          (try clear hi)
          refine hK.out _ _ ⟨(blk_cell BK116.out 0).trans rfl, (blk_cell BK116.out 1).trans rfl, (blk_cell BK116.out 2).trans rfl, (blk_cell BK116.out 3).trans rfl, (blk_cell BK116.out 4).trans rfl, (blk_cell BK138.out 0).trans rfl, (blk_cell BK138.out 1).trans rfl, (blk_cell BK138.out 2).trans rfl, (blk_cell BK138.out 3).trans rfl, (blk_cell BK138.out 4).trans rfl, (blk_cell BK127.out 0).trans rfl, (blk_cell BK127.out 1).trans rfl, (blk_cell BK127.out 2).trans rfl, (blk_cell BK127.out 3).trans rfl, (blk_cell BK127.out 4).trans rfl, (blk_cell BK149.out 0).trans rfl, (blk_cell BK149.out 1).trans rfl, (blk_cell BK149.out 2).trans rfl, (blk_cell BK149.out 3).trans rfl, (blk_cell BK149.out 4).trans rfl, (blk_cell BK101.out 0).trans rfl, (blk_cell BK101.out 1).trans rfl, (blk_cell BK101.out 2).trans rfl, (blk_cell BK101.out 3).trans rfl, (blk_cell BK101.out 4).trans rfl⟩ (fun hHeld => ?_)
          clear hK K
          refine norm_ (a' := ?_) ?_ ?_
          rotate_left
          ·show Act.put _ (some 54) _ = _
           simp only [Act.put, List.setIfInBounds_toArray, List.set_cons_zero, List.set_cons_succ, i64_w, i32_w]
           rfl
          refine pV 12 55 rfl rfl ?_
          refine pV 13 56 rfl rfl ?_
          refine pV 14 57 rfl rfl ?_
          refine tV 15 58 rfl rfl ?_
          refine tV 16 59 rfl rfl ?_
          refine one_ (i := 17) (N := some 60) #[true, true, true, true, true, true, true, true, true, true, true, true, true, true, true, true, true, true, false, false, false, false, false, false, false, false, false, false, false, false, false, false, false, false, false, false, false, false] rfl rfl (one_of HT_.out (by kernel_rfl)) (by decide) (fun K hK => ?_)
          refine goes_ Tryd.func27 (by kernel_rfl) rfl #[.agg #[.int .u64 t117, .int .u64 t118, .int .u64 t119, .slice Ao42 t120.length co42, .slice Ao43 t123.length co43], .agg #[.int .u64 t139, .int .u64 t140, .int .u64 t141, .slice Ao63 t142.length co63, .slice Ao64 t145.length co64]] (by rfl) rfl rfl bM ?_
          with_reducible refine (ferruleref03_Same.calls kj4 t117 t118 t119 _ _ t120 _ _ t123 t139 t140 t141 _ _ t142 _ _ t145 true _ ?side1 ?side2 ?side3 ?side4 ?side5 ?side6 ?side7 ?side8 A73.out).mono ?_
          (case side1 => exact sW (Kd.R_reads' HO122.out).2.2)
          (case side2 => exact (Kd.R_reads' HO122.out).2.1)
          (case side3 => exact sW (Kd.R_reads' HO125.out).2.2)
          (case side4 => exact (Kd.R_reads' HO125.out).2.1)
          (case side5 => exact sW (Kd.R_reads' HO144.out).2.2)
          (case side6 => exact (Kd.R_reads' HO144.out).2.1)
          (case side7 => exact sW (Kd.R_reads' HO147.out).2.2)
          (case side8 => exact (Kd.R_reads' HO147.out).2.1)
          rintro e w81 ⟨rfl, hb⟩
          refine ⟨_, rfl, ?_⟩
          replace HO111 := aR HO111 hb
          replace HO114 := aR HO114 hb
          replace HO122 := aR HO122 hb
          replace HO125 := aR HO125 hb
          replace HO133 := aR HO133 hb
          replace HO136 := aR HO136 hb
          replace HO144 := aR HO144 hb
          replace HO147 := aR HO147 hb
          replace BK101 := aK BK101 hb
          replace BK102 := aK BK102 hb
          replace BK116 := aK BK116 hb
          replace BK127 := aK BK127 hb
          replace BK138 := aK BK138 hb
          replace BK149 := aK BK149 hb
          replace HB := aB HB hb
          (try clear hb)
          (try clear hb2)
          (try clear hk)
          (try clear hi)
          refine hK.out _ _ ⟨(blk_cell BK116.out 0).trans rfl, (blk_cell BK116.out 1).trans rfl, (blk_cell BK116.out 2).trans rfl, (blk_cell BK116.out 3).trans rfl, (blk_cell BK116.out 4).trans rfl, (blk_cell BK138.out 0).trans rfl, (blk_cell BK138.out 1).trans rfl, (blk_cell BK138.out 2).trans rfl, (blk_cell BK138.out 3).trans rfl, (blk_cell BK138.out 4).trans rfl, (blk_cell BK127.out 0).trans rfl, (blk_cell BK127.out 1).trans rfl, (blk_cell BK127.out 2).trans rfl, (blk_cell BK127.out 3).trans rfl, (blk_cell BK127.out 4).trans rfl, (blk_cell BK149.out 0).trans rfl, (blk_cell BK149.out 1).trans rfl, (blk_cell BK149.out 2).trans rfl, (blk_cell BK149.out 3).trans rfl, (blk_cell BK149.out 4).trans rfl, (blk_cell BK101.out 0).trans rfl, (blk_cell BK101.out 1).trans rfl, (blk_cell BK101.out 2).trans rfl, (blk_cell BK101.out 3).trans rfl, (blk_cell BK101.out 4).trans rfl⟩ (fun hHeld => ?_)
          clear hK K
          refine norm_ (a' := ?_) ?_ ?_
          rotate_left
          ·show Act.put _ (some 60) _ = _
           simp only [Act.put, List.setIfInBounds_toArray, List.set_cons_zero, List.set_cons_succ, i64_w, i32_w]
           rfl
          refine pV 18 61 rfl rfl ?_
          refine pV 19 62 rfl rfl ?_
          refine pV 20 63 rfl rfl ?_
          refine pV 21 64 rfl rfl ?_
          refine pV 23 66 rfl rfl ?_
          refine pV 25 68 rfl rfl ?_
          refine pV 28 71 rfl rfl ?_
          refine pV 30 73 rfl rfl ?_
          refine pV 32 75 rfl rfl ?_
          refine tV 22 65 rfl rfl ?_
          refine tV 24 67 rfl rfl ?_
          refine tV 26 69 rfl rfl ?_
          refine tV 29 72 rfl rfl ?_
          refine tV 31 74 rfl rfl ?_
          refine tV 33 76 rfl rfl ?_
          refine one_ (i := 27) (N := some 70) #[true, true, true, true, true, true, true, true, true, true, true, true, true, true, true, true, true, true, true, true, true, true, true, true, true, true, true, true, true, true, true, true, true, true, false, false, false, false] rfl rfl (one_of HT_.out (by kernel_rfl)) (by decide) (fun K hK => ?_)
          refine goes_ Tryd.func28 (by kernel_rfl) rfl #[.int .u64 a0_0, .int .u64 a0_1, .int .u64 a0_2] (by rfl) rfl rfl bM ?_
          with_reducible refine (prec_First.calls a0_0 a0_1 a0_2 t152 t153 t154 t155 t158 _ A75.out).mono ?_
          rintro e w82 ⟨v156, v159, rfl, ho0, ho1, hb⟩
          refine ⟨_, rfl, ?_⟩
          have HO157 := Aside0.mk (Kd.R_lower (Kd.R_new' (Kd.R_new' (Kd.R_new' (Kd.R_new' (Kd.R_new' (Kd.R_new' (Kd.R_new' (Kd.R_new' ho0 (Kd.R_lt (aRw HO111))) (Kd.R_lt (aRw HO114))) (Kd.R_lt (aRw HO122))) (Kd.R_lt (aRw HO125))) (Kd.R_lt (aRw HO133))) (Kd.R_lt (aRw HO136))) (Kd.R_lt (aRw HO144))) (Kd.R_lt (aRw HO147))) (below_size bB))
          have HO160 := Aside0.mk (Kd.R_lower (Kd.R_new' (Kd.R_new' (Kd.R_new' (Kd.R_new' (Kd.R_new' (Kd.R_new' (Kd.R_new' (Kd.R_new' ho1 (Kd.R_lt (aRw HO111))) (Kd.R_lt (aRw HO114))) (Kd.R_lt (aRw HO122))) (Kd.R_lt (aRw HO125))) (Kd.R_lt (aRw HO133))) (Kd.R_lt (aRw HO136))) (Kd.R_lt (aRw HO144))) (Kd.R_lt (aRw HO147))) (below_size bB))
          replace HO111 := Aside0.mk (Kd.R_mono (Kd.R_told (Kd.R_told (Kd.R_old (aRw HO111) hb) (Kd.R_base ho0)) (Kd.R_base ho1)) (fun _ h_ => h_.1))
          replace HO114 := Aside0.mk (Kd.R_mono (Kd.R_told (Kd.R_told (Kd.R_old (aRw HO114) hb) (Kd.R_base ho0)) (Kd.R_base ho1)) (fun _ h_ => h_.1))
          replace HO122 := Aside0.mk (Kd.R_mono (Kd.R_told (Kd.R_told (Kd.R_old (aRw HO122) hb) (Kd.R_base ho0)) (Kd.R_base ho1)) (fun _ h_ => h_.1))
          replace HO125 := Aside0.mk (Kd.R_mono (Kd.R_told (Kd.R_told (Kd.R_old (aRw HO125) hb) (Kd.R_base ho0)) (Kd.R_base ho1)) (fun _ h_ => h_.1))
          replace HO133 := Aside0.mk (Kd.R_mono (Kd.R_told (Kd.R_told (Kd.R_old (aRw HO133) hb) (Kd.R_base ho0)) (Kd.R_base ho1)) (fun _ h_ => h_.1))
          replace HO136 := Aside0.mk (Kd.R_mono (Kd.R_told (Kd.R_told (Kd.R_old (aRw HO136) hb) (Kd.R_base ho0)) (Kd.R_base ho1)) (fun _ h_ => h_.1))
          replace HO144 := Aside0.mk (Kd.R_mono (Kd.R_told (Kd.R_told (Kd.R_old (aRw HO144) hb) (Kd.R_base ho0)) (Kd.R_base ho1)) (fun _ h_ => h_.1))
          replace HO147 := Aside0.mk (Kd.R_mono (Kd.R_told (Kd.R_told (Kd.R_old (aRw HO147) hb) (Kd.R_base ho0)) (Kd.R_base ho1)) (fun _ h_ => h_.1))
          replace BK101 := aK BK101 hb
          replace BK102 := aK BK102 hb
          replace BK116 := aK BK116 hb
          replace BK127 := aK BK127 hb
          replace BK138 := aK BK138 hb
          replace BK149 := aK BK149 hb
          replace HB := aB HB hb
          (try clear hb)
          (try clear hb2)
          (try clear hk)
          (try clear hi)
          (try clear ho0)
          (try clear ho1)
          refine hK.out _ _ ⟨(blk_cell BK116.out 0).trans rfl, (blk_cell BK116.out 1).trans rfl, (blk_cell BK116.out 2).trans rfl, (blk_cell BK116.out 3).trans rfl, (blk_cell BK116.out 4).trans rfl, (blk_cell BK138.out 0).trans rfl, (blk_cell BK138.out 1).trans rfl, (blk_cell BK138.out 2).trans rfl, (blk_cell BK138.out 3).trans rfl, (blk_cell BK138.out 4).trans rfl, (blk_cell BK127.out 0).trans rfl, (blk_cell BK127.out 1).trans rfl, (blk_cell BK127.out 2).trans rfl, (blk_cell BK127.out 3).trans rfl, (blk_cell BK127.out 4).trans rfl, (blk_cell BK149.out 0).trans rfl, (blk_cell BK149.out 1).trans rfl, (blk_cell BK149.out 2).trans rfl, (blk_cell BK149.out 3).trans rfl, (blk_cell BK149.out 4).trans rfl, (blk_cell BK101.out 0).trans rfl, (blk_cell BK101.out 1).trans rfl, (blk_cell BK101.out 2).trans rfl, (blk_cell BK101.out 3).trans rfl, (blk_cell BK101.out 4).trans rfl⟩ (fun hHeld => ?_)
          clear hK K
          refine norm_ (a' := ?_) ?_ ?_
          rotate_left
          ·show Act.put _ (some 70) _ = _
           simp only [Act.put, List.setIfInBounds_toArray, List.set_cons_zero, List.set_cons_succ, i64_w, i32_w]
           rfl
          refine one_ (i := 34) (N := some 77) #[true, true, true, true, true, true, true, true, true, true, true, true, true, true, true, true, true, true, true, true, true, true, true, true, true, true, true, true, true, true, true, true, true, true, true, false, false, false] rfl rfl (one_of HT_.out (by kernel_rfl)) (by decide) (fun K hK => ?_)
          refine goes_ Tryd.func29 (by kernel_rfl) rfl #[.int .u64 a0_0, .int .u64 a0_1, .int .u64 a0_2] (by rfl) rfl rfl bM ?_
          with_reducible refine (ferruleref04_First.calls a0_0 a0_1 a0_2 t161 t162 t163 t164 t167 _ A76.out).mono ?_
          rintro e w83 ⟨v165, v168, rfl, ho0, ho1, hb⟩
          refine ⟨_, rfl, ?_⟩
          have HO166 := Aside0.mk (Kd.R_lower (Kd.R_new' (Kd.R_new' (Kd.R_new' (Kd.R_new' (Kd.R_new' (Kd.R_new' (Kd.R_new' (Kd.R_new' (Kd.R_new' (Kd.R_new' ho0 (Kd.R_lt (aRw HO111))) (Kd.R_lt (aRw HO114))) (Kd.R_lt (aRw HO122))) (Kd.R_lt (aRw HO125))) (Kd.R_lt (aRw HO133))) (Kd.R_lt (aRw HO136))) (Kd.R_lt (aRw HO144))) (Kd.R_lt (aRw HO147))) (Kd.R_lt (aRw HO157))) (Kd.R_lt (aRw HO160))) (below_size bB))
          have HO169 := Aside0.mk (Kd.R_lower (Kd.R_new' (Kd.R_new' (Kd.R_new' (Kd.R_new' (Kd.R_new' (Kd.R_new' (Kd.R_new' (Kd.R_new' (Kd.R_new' (Kd.R_new' ho1 (Kd.R_lt (aRw HO111))) (Kd.R_lt (aRw HO114))) (Kd.R_lt (aRw HO122))) (Kd.R_lt (aRw HO125))) (Kd.R_lt (aRw HO133))) (Kd.R_lt (aRw HO136))) (Kd.R_lt (aRw HO144))) (Kd.R_lt (aRw HO147))) (Kd.R_lt (aRw HO157))) (Kd.R_lt (aRw HO160))) (below_size bB))
          replace HO111 := Aside0.mk (Kd.R_mono (Kd.R_told (Kd.R_told (Kd.R_old (aRw HO111) hb) (Kd.R_base ho0)) (Kd.R_base ho1)) (fun _ h_ => h_.1))
          replace HO114 := Aside0.mk (Kd.R_mono (Kd.R_told (Kd.R_told (Kd.R_old (aRw HO114) hb) (Kd.R_base ho0)) (Kd.R_base ho1)) (fun _ h_ => h_.1))
          replace HO122 := Aside0.mk (Kd.R_mono (Kd.R_told (Kd.R_told (Kd.R_old (aRw HO122) hb) (Kd.R_base ho0)) (Kd.R_base ho1)) (fun _ h_ => h_.1))
          replace HO125 := Aside0.mk (Kd.R_mono (Kd.R_told (Kd.R_told (Kd.R_old (aRw HO125) hb) (Kd.R_base ho0)) (Kd.R_base ho1)) (fun _ h_ => h_.1))
          replace HO133 := Aside0.mk (Kd.R_mono (Kd.R_told (Kd.R_told (Kd.R_old (aRw HO133) hb) (Kd.R_base ho0)) (Kd.R_base ho1)) (fun _ h_ => h_.1))
          replace HO136 := Aside0.mk (Kd.R_mono (Kd.R_told (Kd.R_told (Kd.R_old (aRw HO136) hb) (Kd.R_base ho0)) (Kd.R_base ho1)) (fun _ h_ => h_.1))
          replace HO144 := Aside0.mk (Kd.R_mono (Kd.R_told (Kd.R_told (Kd.R_old (aRw HO144) hb) (Kd.R_base ho0)) (Kd.R_base ho1)) (fun _ h_ => h_.1))
          replace HO147 := Aside0.mk (Kd.R_mono (Kd.R_told (Kd.R_told (Kd.R_old (aRw HO147) hb) (Kd.R_base ho0)) (Kd.R_base ho1)) (fun _ h_ => h_.1))
          replace HO157 := Aside0.mk (Kd.R_mono (Kd.R_told (Kd.R_told (Kd.R_old (aRw HO157) hb) (Kd.R_base ho0)) (Kd.R_base ho1)) (fun _ h_ => h_.1))
          replace HO160 := Aside0.mk (Kd.R_mono (Kd.R_told (Kd.R_told (Kd.R_old (aRw HO160) hb) (Kd.R_base ho0)) (Kd.R_base ho1)) (fun _ h_ => h_.1))
          replace BK101 := aK BK101 hb
          replace BK102 := aK BK102 hb
          replace BK116 := aK BK116 hb
          replace BK127 := aK BK127 hb
          replace BK138 := aK BK138 hb
          replace BK149 := aK BK149 hb
          replace HB := aB HB hb
          (try clear hb)
          (try clear hb2)
          (try clear hk)
          (try clear hi)
          (try clear ho0)
          (try clear ho1)
          obtain ⟨Ao84, co84, eo84⟩ := Kd.R_slice HO157.out
          (first | subst eo84 | (injection eo84 with f1_ f2_ f3_; have f4_ := f1_.symm; have f5_ := f3_.symm; clear f1_ f2_ f3_; subst f4_; subst f5_))
          obtain ⟨Ao85, co85, eo85⟩ := Kd.R_slice HO160.out
          (first | subst eo85 | (injection eo85 with f1_ f2_ f3_; have f4_ := f1_.symm; have f5_ := f3_.symm; clear f1_ f2_ f3_; subst f4_; subst f5_))
          obtain ⟨Ao86, co86, eo86⟩ := Kd.R_slice HO166.out
          (first | subst eo86 | (injection eo86 with f1_ f2_ f3_; have f4_ := f1_.symm; have f5_ := f3_.symm; clear f1_ f2_ f3_; subst f4_; subst f5_))
          obtain ⟨Ao87, co87, eo87⟩ := Kd.R_slice HO169.out
          (first | subst eo87 | (injection eo87 with f1_ f2_ f3_; have f4_ := f1_.symm; have f5_ := f3_.symm; clear f1_ f2_ f3_; subst f4_; subst f5_))
          refine hK.out _ _ ⟨(blk_cell BK116.out 0).trans rfl, (blk_cell BK116.out 1).trans rfl, (blk_cell BK116.out 2).trans rfl, (blk_cell BK116.out 3).trans rfl, (blk_cell BK116.out 4).trans rfl, (blk_cell BK138.out 0).trans rfl, (blk_cell BK138.out 1).trans rfl, (blk_cell BK138.out 2).trans rfl, (blk_cell BK138.out 3).trans rfl, (blk_cell BK138.out 4).trans rfl, (blk_cell BK127.out 0).trans rfl, (blk_cell BK127.out 1).trans rfl, (blk_cell BK127.out 2).trans rfl, (blk_cell BK127.out 3).trans rfl, (blk_cell BK127.out 4).trans rfl, (blk_cell BK149.out 0).trans rfl, (blk_cell BK149.out 1).trans rfl, (blk_cell BK149.out 2).trans rfl, (blk_cell BK149.out 3).trans rfl, (blk_cell BK149.out 4).trans rfl, (blk_cell BK101.out 0).trans rfl, (blk_cell BK101.out 1).trans rfl, (blk_cell BK101.out 2).trans rfl, (blk_cell BK101.out 3).trans rfl, (blk_cell BK101.out 4).trans rfl⟩ (fun hHeld => ?_)
          clear hK K
          refine norm_ (a' := ?_) ?_ ?_
          rotate_left
          ·show Act.put _ (some 77) _ = _
           simp only [Act.put, List.setIfInBounds_toArray, List.set_cons_zero, List.set_cons_succ, i64_w, i32_w]
           rfl
          refine one_ (i := 35) (N := some 78) #[true, true, true, true, true, true, true, true, true, true, true, true, true, true, true, true, true, true, true, true, true, true, true, true, true, true, true, true, true, true, true, true, true, true, true, true, false, false] rfl rfl (one_of HT_.out (by kernel_rfl)) (by decide) (fun K hK => ?_)
          refine goes_ Tryd.func27 (by kernel_rfl) rfl #[.agg #[.int .u64 t152, .int .u64 t153, .int .u64 t154, .slice Ao84 t155.length co84, .slice Ao85 t158.length co85], .agg #[.int .u64 t161, .int .u64 t162, .int .u64 t163, .slice Ao86 t164.length co86, .slice Ao87 t167.length co87]] (by rfl) rfl rfl bM ?_
          with_reducible refine (ferruleref03_Same.calls kj4 t152 t153 t154 _ _ t155 _ _ t158 t161 t162 t163 _ _ t164 _ _ t167 t170 _ ?side1 ?side2 ?side3 ?side4 ?side5 ?side6 ?side7 ?side8 A77.out).mono ?_
          (case side1 => exact sW (Kd.R_reads' HO157.out).2.2)
          (case side2 => exact (Kd.R_reads' HO157.out).2.1)
          (case side3 => exact sW (Kd.R_reads' HO160.out).2.2)
          (case side4 => exact (Kd.R_reads' HO160.out).2.1)
          (case side5 => exact sW (Kd.R_reads' HO166.out).2.2)
          (case side6 => exact (Kd.R_reads' HO166.out).2.1)
          (case side7 => exact sW (Kd.R_reads' HO169.out).2.2)
          (case side8 => exact (Kd.R_reads' HO169.out).2.1)
          rintro e w88 ⟨rfl, hb⟩
          refine ⟨_, rfl, ?_⟩
          replace HO111 := aR HO111 hb
          replace HO114 := aR HO114 hb
          replace HO122 := aR HO122 hb
          replace HO125 := aR HO125 hb
          replace HO133 := aR HO133 hb
          replace HO136 := aR HO136 hb
          replace HO144 := aR HO144 hb
          replace HO147 := aR HO147 hb
          replace HO157 := aR HO157 hb
          replace HO160 := aR HO160 hb
          replace HO166 := aR HO166 hb
          replace HO169 := aR HO169 hb
          replace BK101 := aK BK101 hb
          replace BK102 := aK BK102 hb
          replace BK116 := aK BK116 hb
          replace BK127 := aK BK127 hb
          replace BK138 := aK BK138 hb
          replace BK149 := aK BK149 hb
          replace HB := aB HB hb
          (try clear hb)
          (try clear hb2)
          (try clear hk)
          (try clear hi)
          refine hK.out _ _ ⟨(blk_cell BK116.out 0).trans rfl, (blk_cell BK116.out 1).trans rfl, (blk_cell BK116.out 2).trans rfl, (blk_cell BK116.out 3).trans rfl, (blk_cell BK116.out 4).trans rfl, (blk_cell BK138.out 0).trans rfl, (blk_cell BK138.out 1).trans rfl, (blk_cell BK138.out 2).trans rfl, (blk_cell BK138.out 3).trans rfl, (blk_cell BK138.out 4).trans rfl, (blk_cell BK127.out 0).trans rfl, (blk_cell BK127.out 1).trans rfl, (blk_cell BK127.out 2).trans rfl, (blk_cell BK127.out 3).trans rfl, (blk_cell BK127.out 4).trans rfl, (blk_cell BK149.out 0).trans rfl, (blk_cell BK149.out 1).trans rfl, (blk_cell BK149.out 2).trans rfl, (blk_cell BK149.out 3).trans rfl, (blk_cell BK149.out 4).trans rfl, (blk_cell BK101.out 0).trans rfl, (blk_cell BK101.out 1).trans rfl, (blk_cell BK101.out 2).trans rfl, (blk_cell BK101.out 3).trans rfl, (blk_cell BK101.out 4).trans rfl⟩ (fun hHeld => ?_)
          clear hK K
          refine norm_ (a' := ?_) ?_ ?_
          rotate_left
          ·show Act.put _ (some 78) _ = _
           simp only [Act.put, List.setIfInBounds_toArray, List.set_cons_zero, List.set_cons_succ, i64_w, i32_w]
           rfl
          refine pV 36 79 rfl rfl ?_
          refine pV 37 80 rfl rfl ?_
          refine done_ (done_of HT_.out (by kernel_rfl)) ?_
          try go_wp2
          go_meet
          case rel => exact ⟨_, (!t170), bS, H', ⟨by have := HJ4.out; first | omega | exact Nat.le_refl _⟩, ⟨by (with_reducible repeat (first | apply Kd.R_alloc | apply Kd.R_drewN | apply Kd.R_drew)); exact Kd.R_mono HO111.out bK⟩, ⟨by (with_reducible repeat (first | apply Kd.R_alloc | apply Kd.R_drewN | apply Kd.R_drew)); exact Kd.R_mono HO114.out bK⟩, ⟨by (with_reducible repeat (first | apply Kd.R_alloc | apply Kd.R_drewN | apply Kd.R_drew)); exact Kd.R_mono HO122.out bK⟩, ⟨by (with_reducible repeat (first | apply Kd.R_alloc | apply Kd.R_drewN | apply Kd.R_drew)); exact Kd.R_mono HO125.out bK⟩, ⟨by (with_reducible repeat (first | apply Kd.R_alloc | apply Kd.R_drewN | apply Kd.R_drew)); exact Kd.R_mono HO133.out bK⟩, ⟨by (with_reducible repeat (first | apply Kd.R_alloc | apply Kd.R_drewN | apply Kd.R_drew)); exact Kd.R_mono HO136.out bK⟩, ⟨by (with_reducible repeat (first | apply Kd.R_alloc | apply Kd.R_drewN | apply Kd.R_drew)); exact Kd.R_mono HO144.out bK⟩, ⟨by (with_reducible repeat (first | apply Kd.R_alloc | apply Kd.R_drewN | apply Kd.R_drew)); exact Kd.R_mono HO147.out bK⟩, ⟨aKw BK101⟩, ⟨aKw BK102⟩, ⟨aKw BK116⟩, ⟨aKw BK127⟩, ⟨aKw BK138⟩, ⟨aKw BK149⟩, ⟨bB⟩⟩
         ·replace c74 := Bool.eq_false_iff.mpr c74
          subst c74
          have H1 : (ferrulelaw04_PrecEnds.j1 kj4 t115 t126 true a0_0 a0_1 a0_2 l0_3 l0_4 a1_0 a1_1 a1_2 l1_3 l1_4 t106 t107 t108 t109 t112 t117 t118 t119 t120 t123) = some r := by rw [if_neg (show ¬ (false = true) by decide)] at H; exact H
          clear H
          have H := H1
          clear H1
          have H' := Aside0.mk H
          clear H
          try go_wp2
          generalize hW_ : (((((w56.setCell ⟨gb149, 0, none⟩ (.int .u64 t139)).setCell ⟨gb149, 1, none⟩ (.int .u64 t140)).setCell ⟨gb149, 2, none⟩ (.int .u64 t141)).setCell ⟨gb149, 3, none⟩ (.slice Ao63 t142.length co63)).setCell ⟨gb149, 4, none⟩ (.slice Ao64 t145.length co64)) = w89
          have n0_ : Aside0 (Kd.R Kd.string 9 w89 w.heap.size (fun k_ => some k_ ≠ ob Ao34 t112 co34 ∧ some k_ ≠ ob Ao42 t120 co42 ∧ some k_ ≠ ob Ao43 t123 co43 ∧ some k_ ≠ ob Ao52 t131 co52 ∧ some k_ ≠ ob Ao53 t134 co53 ∧ some k_ ≠ ob Ao63 t142 co63 ∧ some k_ ≠ ob Ao64 t145 co64) (.slice Ao33 t109.length co33) t109) := ⟨by subst hW_; (with_reducible repeat (first | apply Kd.R_alloc | apply Kd.R_drewN | apply Kd.R_drew)); exact Kd.R_mono (aG HO111 BK149) bK⟩
          have n1_ : Aside0 (Kd.R Kd.string 9 w89 w.heap.size (fun k_ => some k_ ≠ ob Ao33 t109 co33 ∧ some k_ ≠ ob Ao42 t120 co42 ∧ some k_ ≠ ob Ao43 t123 co43 ∧ some k_ ≠ ob Ao52 t131 co52 ∧ some k_ ≠ ob Ao53 t134 co53 ∧ some k_ ≠ ob Ao63 t142 co63 ∧ some k_ ≠ ob Ao64 t145 co64) (.slice Ao34 t112.length co34) t112) := ⟨by subst hW_; (with_reducible repeat (first | apply Kd.R_alloc | apply Kd.R_drewN | apply Kd.R_drew)); exact Kd.R_mono (aG HO114 BK149) bK⟩
          have n2_ : Aside0 (Kd.R Kd.string 9 w89 w.heap.size (fun k_ => some k_ ≠ ob Ao33 t109 co33 ∧ some k_ ≠ ob Ao34 t112 co34 ∧ some k_ ≠ ob Ao43 t123 co43 ∧ some k_ ≠ ob Ao52 t131 co52 ∧ some k_ ≠ ob Ao53 t134 co53 ∧ some k_ ≠ ob Ao63 t142 co63 ∧ some k_ ≠ ob Ao64 t145 co64) (.slice Ao42 t120.length co42) t120) := ⟨by subst hW_; (with_reducible repeat (first | apply Kd.R_alloc | apply Kd.R_drewN | apply Kd.R_drew)); exact Kd.R_mono (aG HO122 BK149) bK⟩
          have n3_ : Aside0 (Kd.R Kd.string 9 w89 w.heap.size (fun k_ => some k_ ≠ ob Ao33 t109 co33 ∧ some k_ ≠ ob Ao34 t112 co34 ∧ some k_ ≠ ob Ao42 t120 co42 ∧ some k_ ≠ ob Ao52 t131 co52 ∧ some k_ ≠ ob Ao53 t134 co53 ∧ some k_ ≠ ob Ao63 t142 co63 ∧ some k_ ≠ ob Ao64 t145 co64) (.slice Ao43 t123.length co43) t123) := ⟨by subst hW_; (with_reducible repeat (first | apply Kd.R_alloc | apply Kd.R_drewN | apply Kd.R_drew)); exact Kd.R_mono (aG HO125 BK149) bK⟩
          have n4_ : Aside0 (Kd.R Kd.string 9 w89 w.heap.size (fun k_ => some k_ ≠ ob Ao33 t109 co33 ∧ some k_ ≠ ob Ao34 t112 co34 ∧ some k_ ≠ ob Ao42 t120 co42 ∧ some k_ ≠ ob Ao43 t123 co43 ∧ some k_ ≠ ob Ao53 t134 co53 ∧ some k_ ≠ ob Ao63 t142 co63 ∧ some k_ ≠ ob Ao64 t145 co64) (.slice Ao52 t131.length co52) t131) := ⟨by subst hW_; (with_reducible repeat (first | apply Kd.R_alloc | apply Kd.R_drewN | apply Kd.R_drew)); exact Kd.R_mono (aG HO133 BK149) bK⟩
          have n5_ : Aside0 (Kd.R Kd.string 9 w89 w.heap.size (fun k_ => some k_ ≠ ob Ao33 t109 co33 ∧ some k_ ≠ ob Ao34 t112 co34 ∧ some k_ ≠ ob Ao42 t120 co42 ∧ some k_ ≠ ob Ao43 t123 co43 ∧ some k_ ≠ ob Ao52 t131 co52 ∧ some k_ ≠ ob Ao63 t142 co63 ∧ some k_ ≠ ob Ao64 t145 co64) (.slice Ao53 t134.length co53) t134) := ⟨by subst hW_; (with_reducible repeat (first | apply Kd.R_alloc | apply Kd.R_drewN | apply Kd.R_drew)); exact Kd.R_mono (aG HO136 BK149) bK⟩
          have n6_ : Aside0 (Kd.R Kd.string 9 w89 w.heap.size (fun k_ => some k_ ≠ ob Ao33 t109 co33 ∧ some k_ ≠ ob Ao34 t112 co34 ∧ some k_ ≠ ob Ao42 t120 co42 ∧ some k_ ≠ ob Ao43 t123 co43 ∧ some k_ ≠ ob Ao52 t131 co52 ∧ some k_ ≠ ob Ao53 t134 co53 ∧ some k_ ≠ ob Ao64 t145 co64) (.slice Ao63 t142.length co63) t142) := ⟨by subst hW_; (with_reducible repeat (first | apply Kd.R_alloc | apply Kd.R_drewN | apply Kd.R_drew)); exact Kd.R_mono (aG HO144 BK149) bK⟩
          have n7_ : Aside0 (Kd.R Kd.string 9 w89 w.heap.size (fun k_ => some k_ ≠ ob Ao33 t109 co33 ∧ some k_ ≠ ob Ao34 t112 co34 ∧ some k_ ≠ ob Ao42 t120 co42 ∧ some k_ ≠ ob Ao43 t123 co43 ∧ some k_ ≠ ob Ao52 t131 co52 ∧ some k_ ≠ ob Ao53 t134 co53 ∧ some k_ ≠ ob Ao63 t142 co63) (.slice Ao64 t145.length co64) t145) := ⟨by subst hW_; (with_reducible repeat (first | apply Kd.R_alloc | apply Kd.R_drewN | apply Kd.R_drew)); exact Kd.R_mono (aG HO147 BK149) bK⟩
          have n8_ : Aside0 (w89.heap[gb101]? = some (.cells #[.int .u64 a0_0, .int .u64 a0_1, .int .u64 a0_2, .slice A0_3 l0_3.length c0_3, .slice A0_4 l0_4.length c0_4] 40 (0, 0))) := ⟨by subst hW_; (with_reducible repeat (first | refine blk_drewN ?_ _ | refine blk_drew ?_ | refine blk_alloc ?_ _)); refine blk_far ?_ NB101_149.out _; (with_reducible repeat (first | refine blk_drewN ?_ _ | refine blk_drew ?_ | refine blk_alloc ?_ _)); refine blk_far ?_ NB101_149.out _; (with_reducible repeat (first | refine blk_drewN ?_ _ | refine blk_drew ?_ | refine blk_alloc ?_ _)); refine blk_far ?_ NB101_149.out _; (with_reducible repeat (first | refine blk_drewN ?_ _ | refine blk_drew ?_ | refine blk_alloc ?_ _)); refine blk_far ?_ NB101_149.out _; (with_reducible repeat (first | refine blk_drewN ?_ _ | refine blk_drew ?_ | refine blk_alloc ?_ _)); refine blk_far ?_ NB101_149.out _; (with_reducible repeat (first | refine blk_drewN ?_ _ | refine blk_drew ?_ | refine blk_alloc ?_ _)); exact BK101.out⟩
          have n9_ : Aside0 (w89.heap[gb102]? = some (.cells #[.int .u64 a1_0, .int .u64 a1_1, .int .u64 a1_2, .slice A1_3 l1_3.length c1_3, .slice A1_4 l1_4.length c1_4] 40 (0, 0))) := ⟨by subst hW_; (with_reducible repeat (first | refine blk_drewN ?_ _ | refine blk_drew ?_ | refine blk_alloc ?_ _)); refine blk_far ?_ NB102_149.out _; (with_reducible repeat (first | refine blk_drewN ?_ _ | refine blk_drew ?_ | refine blk_alloc ?_ _)); refine blk_far ?_ NB102_149.out _; (with_reducible repeat (first | refine blk_drewN ?_ _ | refine blk_drew ?_ | refine blk_alloc ?_ _)); refine blk_far ?_ NB102_149.out _; (with_reducible repeat (first | refine blk_drewN ?_ _ | refine blk_drew ?_ | refine blk_alloc ?_ _)); refine blk_far ?_ NB102_149.out _; (with_reducible repeat (first | refine blk_drewN ?_ _ | refine blk_drew ?_ | refine blk_alloc ?_ _)); refine blk_far ?_ NB102_149.out _; (with_reducible repeat (first | refine blk_drewN ?_ _ | refine blk_drew ?_ | refine blk_alloc ?_ _)); exact BK102.out⟩
          have n10_ : Aside0 (w89.heap[gb116]? = some (.cells #[.int .u64 t106, .int .u64 t107, .int .u64 t108, .slice Ao33 t109.length co33, .slice Ao34 t112.length co34] 40 (0, 0))) := ⟨by subst hW_; (with_reducible repeat (first | refine blk_drewN ?_ _ | refine blk_drew ?_ | refine blk_alloc ?_ _)); refine blk_far ?_ NB116_149.out _; (with_reducible repeat (first | refine blk_drewN ?_ _ | refine blk_drew ?_ | refine blk_alloc ?_ _)); refine blk_far ?_ NB116_149.out _; (with_reducible repeat (first | refine blk_drewN ?_ _ | refine blk_drew ?_ | refine blk_alloc ?_ _)); refine blk_far ?_ NB116_149.out _; (with_reducible repeat (first | refine blk_drewN ?_ _ | refine blk_drew ?_ | refine blk_alloc ?_ _)); refine blk_far ?_ NB116_149.out _; (with_reducible repeat (first | refine blk_drewN ?_ _ | refine blk_drew ?_ | refine blk_alloc ?_ _)); refine blk_far ?_ NB116_149.out _; (with_reducible repeat (first | refine blk_drewN ?_ _ | refine blk_drew ?_ | refine blk_alloc ?_ _)); exact BK116.out⟩
          have n11_ : Aside0 (w89.heap[gb127]? = some (.cells #[.int .u64 t117, .int .u64 t118, .int .u64 t119, .slice Ao42 t120.length co42, .slice Ao43 t123.length co43] 40 (0, 0))) := ⟨by subst hW_; (with_reducible repeat (first | refine blk_drewN ?_ _ | refine blk_drew ?_ | refine blk_alloc ?_ _)); refine blk_far ?_ NB127_149.out _; (with_reducible repeat (first | refine blk_drewN ?_ _ | refine blk_drew ?_ | refine blk_alloc ?_ _)); refine blk_far ?_ NB127_149.out _; (with_reducible repeat (first | refine blk_drewN ?_ _ | refine blk_drew ?_ | refine blk_alloc ?_ _)); refine blk_far ?_ NB127_149.out _; (with_reducible repeat (first | refine blk_drewN ?_ _ | refine blk_drew ?_ | refine blk_alloc ?_ _)); refine blk_far ?_ NB127_149.out _; (with_reducible repeat (first | refine blk_drewN ?_ _ | refine blk_drew ?_ | refine blk_alloc ?_ _)); refine blk_far ?_ NB127_149.out _; (with_reducible repeat (first | refine blk_drewN ?_ _ | refine blk_drew ?_ | refine blk_alloc ?_ _)); exact BK127.out⟩
          have n12_ : Aside0 (w89.heap[gb138]? = some (.cells #[.int .u64 t128, .int .u64 t129, .int .u64 t130, .slice Ao52 t131.length co52, .slice Ao53 t134.length co53] 40 (0, 0))) := ⟨by subst hW_; (with_reducible repeat (first | refine blk_drewN ?_ _ | refine blk_drew ?_ | refine blk_alloc ?_ _)); refine blk_far ?_ NB138_149.out _; (with_reducible repeat (first | refine blk_drewN ?_ _ | refine blk_drew ?_ | refine blk_alloc ?_ _)); refine blk_far ?_ NB138_149.out _; (with_reducible repeat (first | refine blk_drewN ?_ _ | refine blk_drew ?_ | refine blk_alloc ?_ _)); refine blk_far ?_ NB138_149.out _; (with_reducible repeat (first | refine blk_drewN ?_ _ | refine blk_drew ?_ | refine blk_alloc ?_ _)); refine blk_far ?_ NB138_149.out _; (with_reducible repeat (first | refine blk_drewN ?_ _ | refine blk_drew ?_ | refine blk_alloc ?_ _)); refine blk_far ?_ NB138_149.out _; (with_reducible repeat (first | refine blk_drewN ?_ _ | refine blk_drew ?_ | refine blk_alloc ?_ _)); exact BK138.out⟩
          have n13_ : Aside0 (w89.heap[gb149]? = some (.cells #[.int .u64 t139, .int .u64 t140, .int .u64 t141, .slice Ao63 t142.length co63, .slice Ao64 t145.length co64] 40 (0, 0))) := ⟨by subst hW_; (with_reducible repeat (first | refine blk_drewN ?_ _ | refine blk_drew ?_ | refine blk_alloc ?_ _)); refine blk_put (cs := #[.int .u64 t139, .int .u64 t140, .int .u64 t141, .slice Ao63 t142.length co63, .slice none 0 0]) ?_ 4 _ rfl; (with_reducible repeat (first | refine blk_drewN ?_ _ | refine blk_drew ?_ | refine blk_alloc ?_ _)); refine blk_put (cs := #[.int .u64 t139, .int .u64 t140, .int .u64 t141, .slice none 0 0, .slice none 0 0]) ?_ 3 _ rfl; (with_reducible repeat (first | refine blk_drewN ?_ _ | refine blk_drew ?_ | refine blk_alloc ?_ _)); refine blk_put (cs := #[.int .u64 t139, .int .u64 t140, .int .u64 0, .slice none 0 0, .slice none 0 0]) ?_ 2 _ rfl; (with_reducible repeat (first | refine blk_drewN ?_ _ | refine blk_drew ?_ | refine blk_alloc ?_ _)); refine blk_put (cs := #[.int .u64 t139, .int .u64 0, .int .u64 0, .slice none 0 0, .slice none 0 0]) ?_ 1 _ rfl; (with_reducible repeat (first | refine blk_drewN ?_ _ | refine blk_drew ?_ | refine blk_alloc ?_ _)); refine blk_put (cs := #[.int .u64 0, .int .u64 0, .int .u64 0, .slice none 0 0, .slice none 0 0]) ?_ 0 _ rfl; (with_reducible repeat (first | refine blk_drewN ?_ _ | refine blk_drew ?_ | refine blk_alloc ?_ _)); exact BK149.out⟩
          have n14_ : Aside0 (Below w.heap.size w w89) := ⟨by subst hW_; exact bB⟩
          (try clear HO111)
          (try clear HO114)
          (try clear HO122)
          (try clear HO125)
          (try clear HO133)
          (try clear HO136)
          (try clear HO144)
          (try clear HO147)
          (try clear BK101)
          (try clear BK102)
          (try clear BK116)
          (try clear BK127)
          (try clear BK138)
          (try clear BK149)
          (try clear HB)
          clear hW_
          have HO111 := n0_
          have HO114 := n1_
          have HO122 := n2_
          have HO125 := n3_
          have HO133 := n4_
          have HO136 := n5_
          have HO144 := n6_
          have HO147 := n7_
          have BK101 := n8_
          have BK102 := n9_
          have BK116 := n10_
          have BK127 := n11_
          have BK138 := n12_
          have BK149 := n13_
          have HB := n14_
          clear n0_ n1_ n2_ n3_ n4_ n5_ n6_ n7_ n8_ n9_ n10_ n11_ n12_ n13_ n14_
          replace HO111 := Aside0.mk (Kd.R_drew HO111.out)
          replace HO114 := Aside0.mk (Kd.R_drew HO114.out)
          replace HO122 := Aside0.mk (Kd.R_drew HO122.out)
          replace HO125 := Aside0.mk (Kd.R_drew HO125.out)
          replace HO133 := Aside0.mk (Kd.R_drew HO133.out)
          replace HO136 := Aside0.mk (Kd.R_drew HO136.out)
          replace HO144 := Aside0.mk (Kd.R_drew HO144.out)
          replace HO147 := Aside0.mk (Kd.R_drew HO147.out)
          replace BK101 := Aside0.mk (blk_drew BK101.out)
          replace BK102 := Aside0.mk (blk_drew BK102.out)
          replace BK116 := Aside0.mk (blk_drew BK116.out)
          replace BK127 := Aside0.mk (blk_drew BK127.out)
          replace BK138 := Aside0.mk (blk_drew BK138.out)
          replace BK149 := Aside0.mk (blk_drew BK149.out)
          replace HB := Aside0.mk (below_drew1 HB.out)
          refine start_ (n := 38) (S := fun w' => w'.cell? ⟨gb116, 0, none⟩ = some (.int .u64 t106) ∧ w'.cell? ⟨gb116, 1, none⟩ = some (.int .u64 t107) ∧ w'.cell? ⟨gb116, 2, none⟩ = some (.int .u64 t108) ∧ w'.cell? ⟨gb116, 3, none⟩ = some (.slice Ao33 t109.length co33) ∧ w'.cell? ⟨gb116, 4, none⟩ = some (.slice Ao34 t112.length co34) ∧ w'.cell? ⟨gb138, 0, none⟩ = some (.int .u64 t128) ∧ w'.cell? ⟨gb138, 1, none⟩ = some (.int .u64 t129) ∧ w'.cell? ⟨gb138, 2, none⟩ = some (.int .u64 t130) ∧ w'.cell? ⟨gb138, 3, none⟩ = some (.slice Ao52 t131.length co52) ∧ w'.cell? ⟨gb138, 4, none⟩ = some (.slice Ao53 t134.length co53) ∧ w'.cell? ⟨gb127, 0, none⟩ = some (.int .u64 t117) ∧ w'.cell? ⟨gb127, 1, none⟩ = some (.int .u64 t118) ∧ w'.cell? ⟨gb127, 2, none⟩ = some (.int .u64 t119) ∧ w'.cell? ⟨gb127, 3, none⟩ = some (.slice Ao42 t120.length co42) ∧ w'.cell? ⟨gb127, 4, none⟩ = some (.slice Ao43 t123.length co43) ∧ w'.cell? ⟨gb149, 0, none⟩ = some (.int .u64 t139) ∧ w'.cell? ⟨gb149, 1, none⟩ = some (.int .u64 t140) ∧ w'.cell? ⟨gb149, 2, none⟩ = some (.int .u64 t141) ∧ w'.cell? ⟨gb149, 3, none⟩ = some (.slice Ao63 t142.length co63) ∧ w'.cell? ⟨gb149, 4, none⟩ = some (.slice Ao64 t145.length co64)) (ds := []) #[false, false, false, false, false, false, false, false, false, false, false, false, false, false, false, false, false, false, false, false, false, false, false, false, false, false, false, false, false, false, false, false, false, false, false, false, false, false] (by kernel_rfl) rfl rfl ⟨(blk_cell BK116.out 0).trans rfl, (blk_cell BK116.out 1).trans rfl, (blk_cell BK116.out 2).trans rfl, (blk_cell BK116.out 3).trans rfl, (blk_cell BK116.out 4).trans rfl, (blk_cell BK138.out 0).trans rfl, (blk_cell BK138.out 1).trans rfl, (blk_cell BK138.out 2).trans rfl, (blk_cell BK138.out 3).trans rfl, (blk_cell BK138.out 4).trans rfl, (blk_cell BK127.out 0).trans rfl, (blk_cell BK127.out 1).trans rfl, (blk_cell BK127.out 2).trans rfl, (blk_cell BK127.out 3).trans rfl, (blk_cell BK127.out 4).trans rfl, (blk_cell BK149.out 0).trans rfl, (blk_cell BK149.out 1).trans rfl, (blk_cell BK149.out 2).trans rfl, (blk_cell BK149.out 3).trans rfl, (blk_cell BK149.out 4).trans rfl⟩ (fun hHeld => ?_); refine with_tabW ferrulelaw04_PrecEnds.tab9 ferrulelaw04_PrecEnds.bits9 (fun HT_ HW_ => ?_)
          generalize w89.drew = w90 at HO111 HO114 HO122 HO125 HO133 HO136 HO144 HO147 BK101 BK102 BK116 BK127 BK138 BK149 HB hHeld ⊢
          refine pV 0 43 rfl rfl ?_
          refine pV 1 44 rfl rfl ?_
          refine pV 2 45 rfl rfl ?_
          refine pV 3 46 rfl rfl ?_
          refine pV 4 47 rfl rfl ?_
          refine pV 5 48 rfl rfl ?_
          refine pV 6 49 rfl rfl ?_
          refine pV 7 50 rfl rfl ?_
          refine pV 8 51 rfl rfl ?_
          refine tV 9 52 rfl rfl ?_
          refine tV 10 53 rfl rfl ?_
          refine one_ (i := 11) (N := some 54) #[true, true, true, true, true, true, true, true, true, true, true, true, false, false, false, false, false, false, false, false, false, false, false, false, false, false, false, false, false, false, false, false, false, false, false, false, false, false] rfl rfl (one_of HT_.out (by kernel_rfl)) (by decide) (fun K hK => ?_)
          refine goes_ Tryd.func27 (by kernel_rfl) rfl #[.agg #[.int .u64 t106, .int .u64 t107, .int .u64 t108, .slice Ao33 t109.length co33, .slice Ao34 t112.length co34], .agg #[.int .u64 t128, .int .u64 t129, .int .u64 t130, .slice Ao52 t131.length co52, .slice Ao53 t134.length co53]] (by rfl) rfl rfl bM ?_
          with_reducible refine (ferruleref03_Same.calls kj4 t106 t107 t108 _ _ t109 _ _ t112 t128 t129 t130 _ _ t131 _ _ t134 true _ ?side1 ?side2 ?side3 ?side4 ?side5 ?side6 ?side7 ?side8 A71.out).mono ?_
          (case side1 => exact sW (Kd.R_reads' HO111.out).2.2)
          (case side2 => exact (Kd.R_reads' HO111.out).2.1)
          (case side3 => exact sW (Kd.R_reads' HO114.out).2.2)
          (case side4 => exact (Kd.R_reads' HO114.out).2.1)
          (case side5 => exact sW (Kd.R_reads' HO133.out).2.2)
          (case side6 => exact (Kd.R_reads' HO133.out).2.1)
          (case side7 => exact sW (Kd.R_reads' HO136.out).2.2)
          (case side8 => exact (Kd.R_reads' HO136.out).2.1)
          rintro e w91 ⟨rfl, hb⟩
          refine ⟨_, rfl, ?_⟩
          replace HO111 := aR HO111 hb
          replace HO114 := aR HO114 hb
          replace HO122 := aR HO122 hb
          replace HO125 := aR HO125 hb
          replace HO133 := aR HO133 hb
          replace HO136 := aR HO136 hb
          replace HO144 := aR HO144 hb
          replace HO147 := aR HO147 hb
          replace BK101 := aK BK101 hb
          replace BK102 := aK BK102 hb
          replace BK116 := aK BK116 hb
          replace BK127 := aK BK127 hb
          replace BK138 := aK BK138 hb
          replace BK149 := aK BK149 hb
          replace HB := aB HB hb
          (try clear hb)
          (try clear hb2)
          (try clear hk)
          (try clear hi)
          refine hK.out _ _ ⟨(blk_cell BK116.out 0).trans rfl, (blk_cell BK116.out 1).trans rfl, (blk_cell BK116.out 2).trans rfl, (blk_cell BK116.out 3).trans rfl, (blk_cell BK116.out 4).trans rfl, (blk_cell BK138.out 0).trans rfl, (blk_cell BK138.out 1).trans rfl, (blk_cell BK138.out 2).trans rfl, (blk_cell BK138.out 3).trans rfl, (blk_cell BK138.out 4).trans rfl, (blk_cell BK127.out 0).trans rfl, (blk_cell BK127.out 1).trans rfl, (blk_cell BK127.out 2).trans rfl, (blk_cell BK127.out 3).trans rfl, (blk_cell BK127.out 4).trans rfl, (blk_cell BK149.out 0).trans rfl, (blk_cell BK149.out 1).trans rfl, (blk_cell BK149.out 2).trans rfl, (blk_cell BK149.out 3).trans rfl, (blk_cell BK149.out 4).trans rfl⟩ (fun hHeld => ?_)
          clear hK K
          refine norm_ (a' := ?_) ?_ ?_
          rotate_left
          ·show Act.put _ (some 54) _ = _
           simp only [Act.put, List.setIfInBounds_toArray, List.set_cons_zero, List.set_cons_succ, i64_w, i32_w]
           rfl
          refine pV 12 55 rfl rfl ?_
          refine pV 13 56 rfl rfl ?_
          refine pV 14 57 rfl rfl ?_
          refine tV 15 58 rfl rfl ?_
          refine tV 16 59 rfl rfl ?_
          refine one_ (i := 17) (N := some 60) #[true, true, true, true, true, true, true, true, true, true, true, true, true, true, true, true, true, true, false, false, false, false, false, false, false, false, false, false, false, false, false, false, false, false, false, false, false, false] rfl rfl (one_of HT_.out (by kernel_rfl)) (by decide) (fun K hK => ?_)
          refine goes_ Tryd.func27 (by kernel_rfl) rfl #[.agg #[.int .u64 t117, .int .u64 t118, .int .u64 t119, .slice Ao42 t120.length co42, .slice Ao43 t123.length co43], .agg #[.int .u64 t139, .int .u64 t140, .int .u64 t141, .slice Ao63 t142.length co63, .slice Ao64 t145.length co64]] (by rfl) rfl rfl bM ?_
          with_reducible refine (ferruleref03_Same.calls kj4 t117 t118 t119 _ _ t120 _ _ t123 t139 t140 t141 _ _ t142 _ _ t145 false _ ?side1 ?side2 ?side3 ?side4 ?side5 ?side6 ?side7 ?side8 A73.out).mono ?_
          (case side1 => exact sW (Kd.R_reads' HO122.out).2.2)
          (case side2 => exact (Kd.R_reads' HO122.out).2.1)
          (case side3 => exact sW (Kd.R_reads' HO125.out).2.2)
          (case side4 => exact (Kd.R_reads' HO125.out).2.1)
          (case side5 => exact sW (Kd.R_reads' HO144.out).2.2)
          (case side6 => exact (Kd.R_reads' HO144.out).2.1)
          (case side7 => exact sW (Kd.R_reads' HO147.out).2.2)
          (case side8 => exact (Kd.R_reads' HO147.out).2.1)
          rintro e w92 ⟨rfl, hb⟩
          refine ⟨_, rfl, ?_⟩
          replace HO111 := aR HO111 hb
          replace HO114 := aR HO114 hb
          replace HO122 := aR HO122 hb
          replace HO125 := aR HO125 hb
          replace HO133 := aR HO133 hb
          replace HO136 := aR HO136 hb
          replace HO144 := aR HO144 hb
          replace HO147 := aR HO147 hb
          replace BK101 := aK BK101 hb
          replace BK102 := aK BK102 hb
          replace BK116 := aK BK116 hb
          replace BK127 := aK BK127 hb
          replace BK138 := aK BK138 hb
          replace BK149 := aK BK149 hb
          replace HB := aB HB hb
          (try clear hb)
          (try clear hb2)
          (try clear hk)
          (try clear hi)
          refine hK.out _ _ ⟨(blk_cell BK116.out 0).trans rfl, (blk_cell BK116.out 1).trans rfl, (blk_cell BK116.out 2).trans rfl, (blk_cell BK116.out 3).trans rfl, (blk_cell BK116.out 4).trans rfl, (blk_cell BK138.out 0).trans rfl, (blk_cell BK138.out 1).trans rfl, (blk_cell BK138.out 2).trans rfl, (blk_cell BK138.out 3).trans rfl, (blk_cell BK138.out 4).trans rfl, (blk_cell BK127.out 0).trans rfl, (blk_cell BK127.out 1).trans rfl, (blk_cell BK127.out 2).trans rfl, (blk_cell BK127.out 3).trans rfl, (blk_cell BK127.out 4).trans rfl, (blk_cell BK149.out 0).trans rfl, (blk_cell BK149.out 1).trans rfl, (blk_cell BK149.out 2).trans rfl, (blk_cell BK149.out 3).trans rfl, (blk_cell BK149.out 4).trans rfl⟩ (fun hHeld => ?_)
          clear hK K
          refine norm_ (a' := ?_) ?_ ?_
          rotate_left
          ·show Act.put _ (some 60) _ = _
           simp only [Act.put, List.setIfInBounds_toArray, List.set_cons_zero, List.set_cons_succ, i64_w, i32_w]
           rfl
          refine pV 18 61 rfl rfl ?_
          refine pV 19 62 rfl rfl ?_
          refine pV 20 63 rfl rfl ?_
          refine pU 21 64 rfl rfl ?_
          refine pU 22 65 rfl rfl ?_
          refine pU 23 66 rfl rfl ?_
          refine pU 24 67 rfl rfl ?_
          refine pU 25 68 rfl rfl ?_
          refine pU 26 69 rfl rfl ?_
          refine pU 27 70 rfl rfl ?_
          refine pU 28 71 rfl rfl ?_
          refine pU 29 72 rfl rfl ?_
          refine pU 30 73 rfl rfl ?_
          refine pU 31 74 rfl rfl ?_
          refine pU 32 75 rfl rfl ?_
          refine pU 33 76 rfl rfl ?_
          refine pU 34 77 rfl rfl ?_
          refine pU 35 78 rfl rfl ?_
          refine pU 36 79 rfl rfl ?_
          refine pV 37 80 rfl rfl ?_
          refine done_ (done_of HT_.out (by kernel_rfl)) ?_
          try go_wp2
          go_meet
          case rel => exact ⟨_, (true), bS, H', ⟨by have := HJ4.out; first | omega | exact Nat.le_refl _⟩, ⟨aRw HO111⟩, ⟨aRw HO114⟩, ⟨aRw HO122⟩, ⟨aRw HO125⟩, ⟨aRw HO133⟩, ⟨aRw HO136⟩, ⟨aRw HO144⟩, ⟨aRw HO147⟩, ⟨aKw BK101⟩, ⟨aKw BK102⟩, ⟨aKw BK116⟩, ⟨aKw BK127⟩, ⟨aKw BK138⟩, ⟨aKw BK149⟩, ⟨bB⟩⟩
        ·replace c72 := Bool.eq_false_iff.mpr c72
         subst c72
         have H1 : (ferrulelaw04_PrecEnds.j1 kj4 t115 t126 true a0_0 a0_1 a0_2 l0_3 l0_4 a1_0 a1_1 a1_2 l1_3 l1_4 t106 t107 t108 t109 t112 t117 t118 t119 t120 t123) = some r := by rw [if_neg (show ¬ (false = true) by decide)] at H; exact H
         clear H
         have H := H1
         clear H1
         have H' := Aside0.mk H
         clear H
         try go_wp2
         generalize hW_ : (((((w56.setCell ⟨gb149, 0, none⟩ (.int .u64 t139)).setCell ⟨gb149, 1, none⟩ (.int .u64 t140)).setCell ⟨gb149, 2, none⟩ (.int .u64 t141)).setCell ⟨gb149, 3, none⟩ (.slice Ao63 t142.length co63)).setCell ⟨gb149, 4, none⟩ (.slice Ao64 t145.length co64)) = w93
         have n0_ : Aside0 (Kd.R Kd.string 9 w93 w.heap.size (fun k_ => some k_ ≠ ob Ao34 t112 co34 ∧ some k_ ≠ ob Ao42 t120 co42 ∧ some k_ ≠ ob Ao43 t123 co43 ∧ some k_ ≠ ob Ao52 t131 co52 ∧ some k_ ≠ ob Ao53 t134 co53 ∧ some k_ ≠ ob Ao63 t142 co63 ∧ some k_ ≠ ob Ao64 t145 co64) (.slice Ao33 t109.length co33) t109) := ⟨by subst hW_; (with_reducible repeat (first | apply Kd.R_alloc | apply Kd.R_drewN | apply Kd.R_drew)); exact Kd.R_mono (aG HO111 BK149) bK⟩
         have n1_ : Aside0 (Kd.R Kd.string 9 w93 w.heap.size (fun k_ => some k_ ≠ ob Ao33 t109 co33 ∧ some k_ ≠ ob Ao42 t120 co42 ∧ some k_ ≠ ob Ao43 t123 co43 ∧ some k_ ≠ ob Ao52 t131 co52 ∧ some k_ ≠ ob Ao53 t134 co53 ∧ some k_ ≠ ob Ao63 t142 co63 ∧ some k_ ≠ ob Ao64 t145 co64) (.slice Ao34 t112.length co34) t112) := ⟨by subst hW_; (with_reducible repeat (first | apply Kd.R_alloc | apply Kd.R_drewN | apply Kd.R_drew)); exact Kd.R_mono (aG HO114 BK149) bK⟩
         have n2_ : Aside0 (Kd.R Kd.string 9 w93 w.heap.size (fun k_ => some k_ ≠ ob Ao33 t109 co33 ∧ some k_ ≠ ob Ao34 t112 co34 ∧ some k_ ≠ ob Ao43 t123 co43 ∧ some k_ ≠ ob Ao52 t131 co52 ∧ some k_ ≠ ob Ao53 t134 co53 ∧ some k_ ≠ ob Ao63 t142 co63 ∧ some k_ ≠ ob Ao64 t145 co64) (.slice Ao42 t120.length co42) t120) := ⟨by subst hW_; (with_reducible repeat (first | apply Kd.R_alloc | apply Kd.R_drewN | apply Kd.R_drew)); exact Kd.R_mono (aG HO122 BK149) bK⟩
         have n3_ : Aside0 (Kd.R Kd.string 9 w93 w.heap.size (fun k_ => some k_ ≠ ob Ao33 t109 co33 ∧ some k_ ≠ ob Ao34 t112 co34 ∧ some k_ ≠ ob Ao42 t120 co42 ∧ some k_ ≠ ob Ao52 t131 co52 ∧ some k_ ≠ ob Ao53 t134 co53 ∧ some k_ ≠ ob Ao63 t142 co63 ∧ some k_ ≠ ob Ao64 t145 co64) (.slice Ao43 t123.length co43) t123) := ⟨by subst hW_; (with_reducible repeat (first | apply Kd.R_alloc | apply Kd.R_drewN | apply Kd.R_drew)); exact Kd.R_mono (aG HO125 BK149) bK⟩
         have n4_ : Aside0 (Kd.R Kd.string 9 w93 w.heap.size (fun k_ => some k_ ≠ ob Ao33 t109 co33 ∧ some k_ ≠ ob Ao34 t112 co34 ∧ some k_ ≠ ob Ao42 t120 co42 ∧ some k_ ≠ ob Ao43 t123 co43 ∧ some k_ ≠ ob Ao53 t134 co53 ∧ some k_ ≠ ob Ao63 t142 co63 ∧ some k_ ≠ ob Ao64 t145 co64) (.slice Ao52 t131.length co52) t131) := ⟨by subst hW_; (with_reducible repeat (first | apply Kd.R_alloc | apply Kd.R_drewN | apply Kd.R_drew)); exact Kd.R_mono (aG HO133 BK149) bK⟩
         have n5_ : Aside0 (Kd.R Kd.string 9 w93 w.heap.size (fun k_ => some k_ ≠ ob Ao33 t109 co33 ∧ some k_ ≠ ob Ao34 t112 co34 ∧ some k_ ≠ ob Ao42 t120 co42 ∧ some k_ ≠ ob Ao43 t123 co43 ∧ some k_ ≠ ob Ao52 t131 co52 ∧ some k_ ≠ ob Ao63 t142 co63 ∧ some k_ ≠ ob Ao64 t145 co64) (.slice Ao53 t134.length co53) t134) := ⟨by subst hW_; (with_reducible repeat (first | apply Kd.R_alloc | apply Kd.R_drewN | apply Kd.R_drew)); exact Kd.R_mono (aG HO136 BK149) bK⟩
         have n6_ : Aside0 (Kd.R Kd.string 9 w93 w.heap.size (fun k_ => some k_ ≠ ob Ao33 t109 co33 ∧ some k_ ≠ ob Ao34 t112 co34 ∧ some k_ ≠ ob Ao42 t120 co42 ∧ some k_ ≠ ob Ao43 t123 co43 ∧ some k_ ≠ ob Ao52 t131 co52 ∧ some k_ ≠ ob Ao53 t134 co53 ∧ some k_ ≠ ob Ao64 t145 co64) (.slice Ao63 t142.length co63) t142) := ⟨by subst hW_; (with_reducible repeat (first | apply Kd.R_alloc | apply Kd.R_drewN | apply Kd.R_drew)); exact Kd.R_mono (aG HO144 BK149) bK⟩
         have n7_ : Aside0 (Kd.R Kd.string 9 w93 w.heap.size (fun k_ => some k_ ≠ ob Ao33 t109 co33 ∧ some k_ ≠ ob Ao34 t112 co34 ∧ some k_ ≠ ob Ao42 t120 co42 ∧ some k_ ≠ ob Ao43 t123 co43 ∧ some k_ ≠ ob Ao52 t131 co52 ∧ some k_ ≠ ob Ao53 t134 co53 ∧ some k_ ≠ ob Ao63 t142 co63) (.slice Ao64 t145.length co64) t145) := ⟨by subst hW_; (with_reducible repeat (first | apply Kd.R_alloc | apply Kd.R_drewN | apply Kd.R_drew)); exact Kd.R_mono (aG HO147 BK149) bK⟩
         have n8_ : Aside0 (w93.heap[gb101]? = some (.cells #[.int .u64 a0_0, .int .u64 a0_1, .int .u64 a0_2, .slice A0_3 l0_3.length c0_3, .slice A0_4 l0_4.length c0_4] 40 (0, 0))) := ⟨by subst hW_; (with_reducible repeat (first | refine blk_drewN ?_ _ | refine blk_drew ?_ | refine blk_alloc ?_ _)); refine blk_far ?_ NB101_149.out _; (with_reducible repeat (first | refine blk_drewN ?_ _ | refine blk_drew ?_ | refine blk_alloc ?_ _)); refine blk_far ?_ NB101_149.out _; (with_reducible repeat (first | refine blk_drewN ?_ _ | refine blk_drew ?_ | refine blk_alloc ?_ _)); refine blk_far ?_ NB101_149.out _; (with_reducible repeat (first | refine blk_drewN ?_ _ | refine blk_drew ?_ | refine blk_alloc ?_ _)); refine blk_far ?_ NB101_149.out _; (with_reducible repeat (first | refine blk_drewN ?_ _ | refine blk_drew ?_ | refine blk_alloc ?_ _)); refine blk_far ?_ NB101_149.out _; (with_reducible repeat (first | refine blk_drewN ?_ _ | refine blk_drew ?_ | refine blk_alloc ?_ _)); exact BK101.out⟩
         have n9_ : Aside0 (w93.heap[gb102]? = some (.cells #[.int .u64 a1_0, .int .u64 a1_1, .int .u64 a1_2, .slice A1_3 l1_3.length c1_3, .slice A1_4 l1_4.length c1_4] 40 (0, 0))) := ⟨by subst hW_; (with_reducible repeat (first | refine blk_drewN ?_ _ | refine blk_drew ?_ | refine blk_alloc ?_ _)); refine blk_far ?_ NB102_149.out _; (with_reducible repeat (first | refine blk_drewN ?_ _ | refine blk_drew ?_ | refine blk_alloc ?_ _)); refine blk_far ?_ NB102_149.out _; (with_reducible repeat (first | refine blk_drewN ?_ _ | refine blk_drew ?_ | refine blk_alloc ?_ _)); refine blk_far ?_ NB102_149.out _; (with_reducible repeat (first | refine blk_drewN ?_ _ | refine blk_drew ?_ | refine blk_alloc ?_ _)); refine blk_far ?_ NB102_149.out _; (with_reducible repeat (first | refine blk_drewN ?_ _ | refine blk_drew ?_ | refine blk_alloc ?_ _)); refine blk_far ?_ NB102_149.out _; (with_reducible repeat (first | refine blk_drewN ?_ _ | refine blk_drew ?_ | refine blk_alloc ?_ _)); exact BK102.out⟩
         have n10_ : Aside0 (w93.heap[gb116]? = some (.cells #[.int .u64 t106, .int .u64 t107, .int .u64 t108, .slice Ao33 t109.length co33, .slice Ao34 t112.length co34] 40 (0, 0))) := ⟨by subst hW_; (with_reducible repeat (first | refine blk_drewN ?_ _ | refine blk_drew ?_ | refine blk_alloc ?_ _)); refine blk_far ?_ NB116_149.out _; (with_reducible repeat (first | refine blk_drewN ?_ _ | refine blk_drew ?_ | refine blk_alloc ?_ _)); refine blk_far ?_ NB116_149.out _; (with_reducible repeat (first | refine blk_drewN ?_ _ | refine blk_drew ?_ | refine blk_alloc ?_ _)); refine blk_far ?_ NB116_149.out _; (with_reducible repeat (first | refine blk_drewN ?_ _ | refine blk_drew ?_ | refine blk_alloc ?_ _)); refine blk_far ?_ NB116_149.out _; (with_reducible repeat (first | refine blk_drewN ?_ _ | refine blk_drew ?_ | refine blk_alloc ?_ _)); refine blk_far ?_ NB116_149.out _; (with_reducible repeat (first | refine blk_drewN ?_ _ | refine blk_drew ?_ | refine blk_alloc ?_ _)); exact BK116.out⟩
         have n11_ : Aside0 (w93.heap[gb127]? = some (.cells #[.int .u64 t117, .int .u64 t118, .int .u64 t119, .slice Ao42 t120.length co42, .slice Ao43 t123.length co43] 40 (0, 0))) := ⟨by subst hW_; (with_reducible repeat (first | refine blk_drewN ?_ _ | refine blk_drew ?_ | refine blk_alloc ?_ _)); refine blk_far ?_ NB127_149.out _; (with_reducible repeat (first | refine blk_drewN ?_ _ | refine blk_drew ?_ | refine blk_alloc ?_ _)); refine blk_far ?_ NB127_149.out _; (with_reducible repeat (first | refine blk_drewN ?_ _ | refine blk_drew ?_ | refine blk_alloc ?_ _)); refine blk_far ?_ NB127_149.out _; (with_reducible repeat (first | refine blk_drewN ?_ _ | refine blk_drew ?_ | refine blk_alloc ?_ _)); refine blk_far ?_ NB127_149.out _; (with_reducible repeat (first | refine blk_drewN ?_ _ | refine blk_drew ?_ | refine blk_alloc ?_ _)); refine blk_far ?_ NB127_149.out _; (with_reducible repeat (first | refine blk_drewN ?_ _ | refine blk_drew ?_ | refine blk_alloc ?_ _)); exact BK127.out⟩
         have n12_ : Aside0 (w93.heap[gb138]? = some (.cells #[.int .u64 t128, .int .u64 t129, .int .u64 t130, .slice Ao52 t131.length co52, .slice Ao53 t134.length co53] 40 (0, 0))) := ⟨by subst hW_; (with_reducible repeat (first | refine blk_drewN ?_ _ | refine blk_drew ?_ | refine blk_alloc ?_ _)); refine blk_far ?_ NB138_149.out _; (with_reducible repeat (first | refine blk_drewN ?_ _ | refine blk_drew ?_ | refine blk_alloc ?_ _)); refine blk_far ?_ NB138_149.out _; (with_reducible repeat (first | refine blk_drewN ?_ _ | refine blk_drew ?_ | refine blk_alloc ?_ _)); refine blk_far ?_ NB138_149.out _; (with_reducible repeat (first | refine blk_drewN ?_ _ | refine blk_drew ?_ | refine blk_alloc ?_ _)); refine blk_far ?_ NB138_149.out _; (with_reducible repeat (first | refine blk_drewN ?_ _ | refine blk_drew ?_ | refine blk_alloc ?_ _)); refine blk_far ?_ NB138_149.out _; (with_reducible repeat (first | refine blk_drewN ?_ _ | refine blk_drew ?_ | refine blk_alloc ?_ _)); exact BK138.out⟩
         have n13_ : Aside0 (w93.heap[gb149]? = some (.cells #[.int .u64 t139, .int .u64 t140, .int .u64 t141, .slice Ao63 t142.length co63, .slice Ao64 t145.length co64] 40 (0, 0))) := ⟨by subst hW_; (with_reducible repeat (first | refine blk_drewN ?_ _ | refine blk_drew ?_ | refine blk_alloc ?_ _)); refine blk_put (cs := #[.int .u64 t139, .int .u64 t140, .int .u64 t141, .slice Ao63 t142.length co63, .slice none 0 0]) ?_ 4 _ rfl; (with_reducible repeat (first | refine blk_drewN ?_ _ | refine blk_drew ?_ | refine blk_alloc ?_ _)); refine blk_put (cs := #[.int .u64 t139, .int .u64 t140, .int .u64 t141, .slice none 0 0, .slice none 0 0]) ?_ 3 _ rfl; (with_reducible repeat (first | refine blk_drewN ?_ _ | refine blk_drew ?_ | refine blk_alloc ?_ _)); refine blk_put (cs := #[.int .u64 t139, .int .u64 t140, .int .u64 0, .slice none 0 0, .slice none 0 0]) ?_ 2 _ rfl; (with_reducible repeat (first | refine blk_drewN ?_ _ | refine blk_drew ?_ | refine blk_alloc ?_ _)); refine blk_put (cs := #[.int .u64 t139, .int .u64 0, .int .u64 0, .slice none 0 0, .slice none 0 0]) ?_ 1 _ rfl; (with_reducible repeat (first | refine blk_drewN ?_ _ | refine blk_drew ?_ | refine blk_alloc ?_ _)); refine blk_put (cs := #[.int .u64 0, .int .u64 0, .int .u64 0, .slice none 0 0, .slice none 0 0]) ?_ 0 _ rfl; (with_reducible repeat (first | refine blk_drewN ?_ _ | refine blk_drew ?_ | refine blk_alloc ?_ _)); exact BK149.out⟩
         have n14_ : Aside0 (Below w.heap.size w w93) := ⟨by subst hW_; exact bB⟩
         (try clear HO111)
         (try clear HO114)
         (try clear HO122)
         (try clear HO125)
         (try clear HO133)
         (try clear HO136)
         (try clear HO144)
         (try clear HO147)
         (try clear BK101)
         (try clear BK102)
         (try clear BK116)
         (try clear BK127)
         (try clear BK138)
         (try clear BK149)
         (try clear HB)
         clear hW_
         have HO111 := n0_
         have HO114 := n1_
         have HO122 := n2_
         have HO125 := n3_
         have HO133 := n4_
         have HO136 := n5_
         have HO144 := n6_
         have HO147 := n7_
         have BK101 := n8_
         have BK102 := n9_
         have BK116 := n10_
         have BK127 := n11_
         have BK138 := n12_
         have BK149 := n13_
         have HB := n14_
         clear n0_ n1_ n2_ n3_ n4_ n5_ n6_ n7_ n8_ n9_ n10_ n11_ n12_ n13_ n14_
         replace HO111 := Aside0.mk (Kd.R_drew HO111.out)
         replace HO114 := Aside0.mk (Kd.R_drew HO114.out)
         replace HO122 := Aside0.mk (Kd.R_drew HO122.out)
         replace HO125 := Aside0.mk (Kd.R_drew HO125.out)
         replace HO133 := Aside0.mk (Kd.R_drew HO133.out)
         replace HO136 := Aside0.mk (Kd.R_drew HO136.out)
         replace HO144 := Aside0.mk (Kd.R_drew HO144.out)
         replace HO147 := Aside0.mk (Kd.R_drew HO147.out)
         replace BK101 := Aside0.mk (blk_drew BK101.out)
         replace BK102 := Aside0.mk (blk_drew BK102.out)
         replace BK116 := Aside0.mk (blk_drew BK116.out)
         replace BK127 := Aside0.mk (blk_drew BK127.out)
         replace BK138 := Aside0.mk (blk_drew BK138.out)
         replace BK149 := Aside0.mk (blk_drew BK149.out)
         replace HB := Aside0.mk (below_drew1 HB.out)
         refine start_ (n := 38) (S := fun w' => w'.cell? ⟨gb116, 0, none⟩ = some (.int .u64 t106) ∧ w'.cell? ⟨gb116, 1, none⟩ = some (.int .u64 t107) ∧ w'.cell? ⟨gb116, 2, none⟩ = some (.int .u64 t108) ∧ w'.cell? ⟨gb116, 3, none⟩ = some (.slice Ao33 t109.length co33) ∧ w'.cell? ⟨gb116, 4, none⟩ = some (.slice Ao34 t112.length co34) ∧ w'.cell? ⟨gb138, 0, none⟩ = some (.int .u64 t128) ∧ w'.cell? ⟨gb138, 1, none⟩ = some (.int .u64 t129) ∧ w'.cell? ⟨gb138, 2, none⟩ = some (.int .u64 t130) ∧ w'.cell? ⟨gb138, 3, none⟩ = some (.slice Ao52 t131.length co52) ∧ w'.cell? ⟨gb138, 4, none⟩ = some (.slice Ao53 t134.length co53)) (ds := []) #[false, false, false, false, false, false, false, false, false, false, false, false, false, false, false, false, false, false, false, false, false, false, false, false, false, false, false, false, false, false, false, false, false, false, false, false, false, false] (by kernel_rfl) rfl rfl ⟨(blk_cell BK116.out 0).trans rfl, (blk_cell BK116.out 1).trans rfl, (blk_cell BK116.out 2).trans rfl, (blk_cell BK116.out 3).trans rfl, (blk_cell BK116.out 4).trans rfl, (blk_cell BK138.out 0).trans rfl, (blk_cell BK138.out 1).trans rfl, (blk_cell BK138.out 2).trans rfl, (blk_cell BK138.out 3).trans rfl, (blk_cell BK138.out 4).trans rfl⟩ (fun hHeld => ?_); refine with_tabW ferrulelaw04_PrecEnds.tab9 ferrulelaw04_PrecEnds.bits9 (fun HT_ HW_ => ?_)
         generalize w93.drew = w94 at HO111 HO114 HO122 HO125 HO133 HO136 HO144 HO147 BK101 BK102 BK116 BK127 BK138 BK149 HB hHeld ⊢
         refine pV 0 43 rfl rfl ?_
         refine pV 1 44 rfl rfl ?_
         refine pV 2 45 rfl rfl ?_
         refine pV 3 46 rfl rfl ?_
         refine pV 4 47 rfl rfl ?_
         refine pV 5 48 rfl rfl ?_
         refine pV 6 49 rfl rfl ?_
         refine pV 7 50 rfl rfl ?_
         refine pV 8 51 rfl rfl ?_
         refine tV 9 52 rfl rfl ?_
         refine tV 10 53 rfl rfl ?_
         refine one_ (i := 11) (N := some 54) #[true, true, true, true, true, true, true, true, true, true, true, true, false, false, false, false, false, false, false, false, false, false, false, false, false, false, false, false, false, false, false, false, false, false, false, false, false, false] rfl rfl (one_of HT_.out (by kernel_rfl)) (by decide) (fun K hK => ?_)
         refine goes_ Tryd.func27 (by kernel_rfl) rfl #[.agg #[.int .u64 t106, .int .u64 t107, .int .u64 t108, .slice Ao33 t109.length co33, .slice Ao34 t112.length co34], .agg #[.int .u64 t128, .int .u64 t129, .int .u64 t130, .slice Ao52 t131.length co52, .slice Ao53 t134.length co53]] (by rfl) rfl rfl bM ?_
         with_reducible refine (ferruleref03_Same.calls kj4 t106 t107 t108 _ _ t109 _ _ t112 t128 t129 t130 _ _ t131 _ _ t134 false _ ?side1 ?side2 ?side3 ?side4 ?side5 ?side6 ?side7 ?side8 A71.out).mono ?_
         (case side1 => exact sW (Kd.R_reads' HO111.out).2.2)
         (case side2 => exact (Kd.R_reads' HO111.out).2.1)
         (case side3 => exact sW (Kd.R_reads' HO114.out).2.2)
         (case side4 => exact (Kd.R_reads' HO114.out).2.1)
         (case side5 => exact sW (Kd.R_reads' HO133.out).2.2)
         (case side6 => exact (Kd.R_reads' HO133.out).2.1)
         (case side7 => exact sW (Kd.R_reads' HO136.out).2.2)
         (case side8 => exact (Kd.R_reads' HO136.out).2.1)
         rintro e w95 ⟨rfl, hb⟩
         refine ⟨_, rfl, ?_⟩
         replace HO111 := aR HO111 hb
         replace HO114 := aR HO114 hb
         replace HO122 := aR HO122 hb
         replace HO125 := aR HO125 hb
         replace HO133 := aR HO133 hb
         replace HO136 := aR HO136 hb
         replace HO144 := aR HO144 hb
         replace HO147 := aR HO147 hb
         replace BK101 := aK BK101 hb
         replace BK102 := aK BK102 hb
         replace BK116 := aK BK116 hb
         replace BK127 := aK BK127 hb
         replace BK138 := aK BK138 hb
         replace BK149 := aK BK149 hb
         replace HB := aB HB hb
         (try clear hb)
         (try clear hb2)
         (try clear hk)
         (try clear hi)
         refine hK.out _ _ ⟨(blk_cell BK116.out 0).trans rfl, (blk_cell BK116.out 1).trans rfl, (blk_cell BK116.out 2).trans rfl, (blk_cell BK116.out 3).trans rfl, (blk_cell BK116.out 4).trans rfl, (blk_cell BK138.out 0).trans rfl, (blk_cell BK138.out 1).trans rfl, (blk_cell BK138.out 2).trans rfl, (blk_cell BK138.out 3).trans rfl, (blk_cell BK138.out 4).trans rfl⟩ (fun hHeld => ?_)
         clear hK K
         refine norm_ (a' := ?_) ?_ ?_
         rotate_left
         ·show Act.put _ (some 54) _ = _
          simp only [Act.put, List.setIfInBounds_toArray, List.set_cons_zero, List.set_cons_succ, i64_w, i32_w]
          rfl
         refine pV 12 55 rfl rfl ?_
         refine pV 13 56 rfl rfl ?_
         refine pV 14 57 rfl rfl ?_
         refine pU 15 58 rfl rfl ?_
         refine pU 16 59 rfl rfl ?_
         refine pU 17 60 rfl rfl ?_
         refine pU 18 61 rfl rfl ?_
         refine pV 19 62 rfl rfl ?_
         refine pV 20 63 rfl rfl ?_
         refine pU 21 64 rfl rfl ?_
         refine pU 22 65 rfl rfl ?_
         refine pU 23 66 rfl rfl ?_
         refine pU 24 67 rfl rfl ?_
         refine pU 25 68 rfl rfl ?_
         refine pU 26 69 rfl rfl ?_
         refine pU 27 70 rfl rfl ?_
         refine pU 28 71 rfl rfl ?_
         refine pU 29 72 rfl rfl ?_
         refine pU 30 73 rfl rfl ?_
         refine pU 31 74 rfl rfl ?_
         refine pU 32 75 rfl rfl ?_
         refine pU 33 76 rfl rfl ?_
         refine pU 34 77 rfl rfl ?_
         refine pU 35 78 rfl rfl ?_
         refine pU 36 79 rfl rfl ?_
         refine pV 37 80 rfl rfl ?_
         refine done_ (done_of HT_.out (by kernel_rfl)) ?_
         try go_wp2
         go_meet
         case rel => exact ⟨_, (true), bS, H', ⟨by have := HJ4.out; first | omega | exact Nat.le_refl _⟩, ⟨aRw HO111⟩, ⟨aRw HO114⟩, ⟨aRw HO122⟩, ⟨aRw HO125⟩, ⟨aRw HO133⟩, ⟨aRw HO136⟩, ⟨aRw HO144⟩, ⟨aRw HO147⟩, ⟨aKw BK101⟩, ⟨aKw BK102⟩, ⟨aKw BK116⟩, ⟨aKw BK127⟩, ⟨aKw BK138⟩, ⟨aKw BK149⟩, ⟨bB⟩⟩
     case rest =>
      clear HC25
      try clear c1
      try clear c2
      try clear p2
      try clear p6
      try clear c7
      try clear c27
      try clear p64
      try clear c72
      obtain ⟨kq, x80_24, rfl, HA, HJ24, HO_117003, HO_117004, HO_128003, HO_128004, HO_139003, HO_139004, HO_150003, HO_150004, BK101, BK102, BK116, BK127, BK138, BK149, HB⟩ := hcut
      cases kq with
      | zero => exact absurd HA.out (by simp [ferrulelaw04_PrecEnds.j1])
      | succ kj24 =>
       have H := HA.out
       clear HA
       simp only [ferrulelaw04_PrecEnds.j1] at H
       by_cases c96 : x80_24 = true
       ·subst c96
        have H1 : (some false) = some r := by rw [if_pos rfl] at H; exact H
        clear H
        have H := H1
        clear H1
        obtain rfl := Option.some.inj H
        go_wp2
        go_ret
        exact ⟨by first | rfl | (simp [errW_none, errW_some] <;> rfl) | (simp [*, errW_none, errW_some] <;> rfl), bB⟩
       ·replace c96 := Bool.eq_false_iff.mpr c96
        subst c96
        have H1 : ((ferruleref03_Good.f kj24 a0_0 a0_1 a0_2 l0_3 l0_4).bind fun t171 => (if t171 = true then ((ferruleref03_Good.f kj24 a1_0 a1_1 a1_2 l1_3 l1_4).bind fun t172 => (ferrulelaw04_PrecEnds.j2 kj24 t115 t126 (!t172) a0_0 a0_1 a0_2 l0_3 l0_4 a1_0 a1_1 a1_2 l1_3 l1_4 t106 t107 t108 t109 t112 t117 t118 t119 t120 t123)) else (ferrulelaw04_PrecEnds.j2 kj24 t115 t126 true a0_0 a0_1 a0_2 l0_3 l0_4 a1_0 a1_1 a1_2 l1_3 l1_4 t106 t107 t108 t109 t112 t117 t118 t119 t120 t123))) = some r := by rw [if_neg (show ¬ (false = true) by decide)] at H; exact H
        clear H
        have H := H1
        clear H1
        have HC97 := Aside0.mk H
        clear H
        go_upto_region 11 with (fail)
        go_cut [88] (fun v88 wc => ∃ (kq : Nat) (x88_96 : Bool), v88 = .bool x88_96 ∧ Aside0 (ferrulelaw04_PrecEnds.j2 kq t115 t126 x88_96 a0_0 a0_1 a0_2 l0_3 l0_4 a1_0 a1_1 a1_2 l1_3 l1_4 t106 t107 t108 t109 t112 t117 t118 t119 t120 t123 = some r) ∧ Aside0 (kq ≤ kj24) ∧ Aside0 (Kd.R Kd.string 9 wc w.heap.size (fun k_ => some k_ ≠ ob Ao34 t112 co34 ∧ some k_ ≠ ob Ao42 t120 co42 ∧ some k_ ≠ ob Ao43 t123 co43 ∧ some k_ ≠ ob Ao52 t131 co52 ∧ some k_ ≠ ob Ao53 t134 co53 ∧ some k_ ≠ ob Ao63 t142 co63 ∧ some k_ ≠ ob Ao64 t145 co64) (.slice Ao33 t109.length co33) t109) ∧ Aside0 (Kd.R Kd.string 9 wc w.heap.size (fun k_ => some k_ ≠ ob Ao33 t109 co33 ∧ some k_ ≠ ob Ao42 t120 co42 ∧ some k_ ≠ ob Ao43 t123 co43 ∧ some k_ ≠ ob Ao52 t131 co52 ∧ some k_ ≠ ob Ao53 t134 co53 ∧ some k_ ≠ ob Ao63 t142 co63 ∧ some k_ ≠ ob Ao64 t145 co64) (.slice Ao34 t112.length co34) t112) ∧ Aside0 (Kd.R Kd.string 9 wc w.heap.size (fun k_ => some k_ ≠ ob Ao33 t109 co33 ∧ some k_ ≠ ob Ao34 t112 co34 ∧ some k_ ≠ ob Ao43 t123 co43 ∧ some k_ ≠ ob Ao52 t131 co52 ∧ some k_ ≠ ob Ao53 t134 co53 ∧ some k_ ≠ ob Ao63 t142 co63 ∧ some k_ ≠ ob Ao64 t145 co64) (.slice Ao42 t120.length co42) t120) ∧ Aside0 (Kd.R Kd.string 9 wc w.heap.size (fun k_ => some k_ ≠ ob Ao33 t109 co33 ∧ some k_ ≠ ob Ao34 t112 co34 ∧ some k_ ≠ ob Ao42 t120 co42 ∧ some k_ ≠ ob Ao52 t131 co52 ∧ some k_ ≠ ob Ao53 t134 co53 ∧ some k_ ≠ ob Ao63 t142 co63 ∧ some k_ ≠ ob Ao64 t145 co64) (.slice Ao43 t123.length co43) t123) ∧ Aside0 (Kd.R Kd.string 9 wc w.heap.size (fun k_ => some k_ ≠ ob Ao33 t109 co33 ∧ some k_ ≠ ob Ao34 t112 co34 ∧ some k_ ≠ ob Ao42 t120 co42 ∧ some k_ ≠ ob Ao43 t123 co43 ∧ some k_ ≠ ob Ao53 t134 co53 ∧ some k_ ≠ ob Ao63 t142 co63 ∧ some k_ ≠ ob Ao64 t145 co64) (.slice Ao52 t131.length co52) t131) ∧ Aside0 (Kd.R Kd.string 9 wc w.heap.size (fun k_ => some k_ ≠ ob Ao33 t109 co33 ∧ some k_ ≠ ob Ao34 t112 co34 ∧ some k_ ≠ ob Ao42 t120 co42 ∧ some k_ ≠ ob Ao43 t123 co43 ∧ some k_ ≠ ob Ao52 t131 co52 ∧ some k_ ≠ ob Ao63 t142 co63 ∧ some k_ ≠ ob Ao64 t145 co64) (.slice Ao53 t134.length co53) t134) ∧ Aside0 (Kd.R Kd.string 9 wc w.heap.size (fun k_ => some k_ ≠ ob Ao33 t109 co33 ∧ some k_ ≠ ob Ao34 t112 co34 ∧ some k_ ≠ ob Ao42 t120 co42 ∧ some k_ ≠ ob Ao43 t123 co43 ∧ some k_ ≠ ob Ao52 t131 co52 ∧ some k_ ≠ ob Ao53 t134 co53 ∧ some k_ ≠ ob Ao64 t145 co64) (.slice Ao63 t142.length co63) t142) ∧ Aside0 (Kd.R Kd.string 9 wc w.heap.size (fun k_ => some k_ ≠ ob Ao33 t109 co33 ∧ some k_ ≠ ob Ao34 t112 co34 ∧ some k_ ≠ ob Ao42 t120 co42 ∧ some k_ ≠ ob Ao43 t123 co43 ∧ some k_ ≠ ob Ao52 t131 co52 ∧ some k_ ≠ ob Ao53 t134 co53 ∧ some k_ ≠ ob Ao63 t142 co63) (.slice Ao64 t145.length co64) t145) ∧ Aside0 (wc.heap[gb101]? = some (.cells #[.int .u64 a0_0, .int .u64 a0_1, .int .u64 a0_2, (.slice A0_3 l0_3.length c0_3), (.slice A0_4 l0_4.length c0_4)] 40 (0, 0))) ∧ Aside0 (wc.heap[gb102]? = some (.cells #[.int .u64 a1_0, .int .u64 a1_1, .int .u64 a1_2, (.slice A1_3 l1_3.length c1_3), (.slice A1_4 l1_4.length c1_4)] 40 (0, 0))) ∧ Aside0 (wc.heap[gb116]? = some (.cells #[.int .u64 t106, .int .u64 t107, .int .u64 t108, (.slice Ao33 t109.length co33), (.slice Ao34 t112.length co34)] 40 (0, 0))) ∧ Aside0 (wc.heap[gb127]? = some (.cells #[.int .u64 t117, .int .u64 t118, .int .u64 t119, (.slice Ao42 t120.length co42), (.slice Ao43 t123.length co43)] 40 (0, 0))) ∧ Aside0 (wc.heap[gb138]? = some (.cells #[.int .u64 t128, .int .u64 t129, .int .u64 t130, (.slice Ao52 t131.length co52), (.slice Ao53 t134.length co53)] 40 (0, 0))) ∧ Aside0 (wc.heap[gb149]? = some (.cells #[.int .u64 t139, .int .u64 t140, .int .u64 t141, (.slice Ao63 t142.length co63), (.slice Ao64 t145.length co64)] 40 (0, 0))) ∧ Aside0 (Below w.heap.size w wc))
        case first =>
         have H := HC97.out
         clear HC97
         replace H := Option.bind_eq_some_iff.mp H
         obtain ⟨t171, A980, H⟩ := H
         replace H : (if t171 = true then ((ferruleref03_Good.f kj24 a1_0 a1_1 a1_2 l1_3 l1_4).bind fun t172 => (ferrulelaw04_PrecEnds.j2 kj24 t115 t126 (!t172) a0_0 a0_1 a0_2 l0_3 l0_4 a1_0 a1_1 a1_2 l1_3 l1_4 t106 t107 t108 t109 t112 t117 t118 t119 t120 t123)) else (ferrulelaw04_PrecEnds.j2 kj24 t115 t126 true a0_0 a0_1 a0_2 l0_3 l0_4 a1_0 a1_1 a1_2 l1_3 l1_4 t106 t107 t108 t109 t112 t117 t118 t119 t120 t123)) = some r := H
         have A98 := Aside0.mk A980
         clear A980
         by_cases c99 : t171 = true
         ·subst c99
          have H1 : ((ferruleref03_Good.f kj24 a1_0 a1_1 a1_2 l1_3 l1_4).bind fun t172 => (ferrulelaw04_PrecEnds.j2 kj24 t115 t126 (!t172) a0_0 a0_1 a0_2 l0_3 l0_4 a1_0 a1_1 a1_2 l1_3 l1_4 t106 t107 t108 t109 t112 t117 t118 t119 t120 t123)) = some r := by rw [if_pos rfl] at H; exact H
          clear H
          have H := H1
          clear H1
          replace H := Option.bind_eq_some_iff.mp H
          obtain ⟨t172, A1000, H⟩ := H
          replace H : (ferrulelaw04_PrecEnds.j2 kj24 t115 t126 (!t172) a0_0 a0_1 a0_2 l0_3 l0_4 a1_0 a1_1 a1_2 l1_3 l1_4 t106 t107 t108 t109 t112 t117 t118 t119 t120 t123) = some r := H
          have A100 := Aside0.mk A1000
          clear A1000
          have H' := Aside0.mk H
          clear H
          have hnb101 := NB101_102.out
          have hnc101 := NB102_101.out
          have hnb102 := NB101_116.out
          have hnc102 := NB116_101.out
          have hnb103 := NB101_127.out
          have hnc103 := NB127_101.out
          have hnb104 := NB101_138.out
          have hnc104 := NB138_101.out
          have hnb105 := NB101_149.out
          have hnc105 := NB149_101.out
          have hcz106_0 : wc.cell? ⟨gb101, 0, none⟩ = some (.int .u64 a0_0) := (blk_cell BK101.out 0).trans rfl
          have hcz106_1 : wc.cell? ⟨gb101, 1, none⟩ = some (.int .u64 a0_1) := (blk_cell BK101.out 1).trans rfl
          have hcz106_2 : wc.cell? ⟨gb101, 2, none⟩ = some (.int .u64 a0_2) := (blk_cell BK101.out 2).trans rfl
          have hcz106_3 : wc.cell? ⟨gb101, 3, none⟩ = some (.slice A0_3 l0_3.length c0_3) := (blk_cell BK101.out 3).trans rfl
          have hcz106_4 : wc.cell? ⟨gb101, 4, none⟩ = some (.slice A0_4 l0_4.length c0_4) := (blk_cell BK101.out 4).trans rfl
          have hfz106_0 := blk_frozen BK101.out 0
          have hfz106_1 := blk_frozen BK101.out 1
          have hfz106_2 := blk_frozen BK101.out 2
          have hfz106_3 := blk_frozen BK101.out 3
          have hfz106_4 := blk_frozen BK101.out 4
          go_wp2_with (first | ((with_reducible refine gate_callee (f := 30) rfl ?_); refine goesL_ (some 82) rfl rfl Tryd.func30 (by kernel_rfl) rfl #[.agg #[.int .u64 a0_0, .int .u64 a0_1, .int .u64 a0_2, .slice A0_3 l0_3.length c0_3, .slice A0_4 l0_4.length c0_4]] rfl bM ?_; (with_reducible refine (ferruleref03_Good.calls kj24 a0_0 a0_1 a0_2 _ _ l0_3 _ _ l0_4 true _ ?side1 ?side2 ?side3 ?side4 A98.out).mono ?_); (case side1 => exact sW (Kd.C_below HR0_3.out HB.out)); (case side2 => exact HC0_3.out); (case side3 => exact sW (Kd.C_below HR0_4.out HB.out)); (case side4 => exact HC0_4.out); rintro e w107 ⟨rfl, hb⟩; refine ⟨_, rfl, ?_⟩; replace HO_117003 := aR HO_117003 hb; replace HO_117004 := aR HO_117004 hb; replace HO_128003 := aR HO_128003 hb; replace HO_128004 := aR HO_128004 hb; replace HO_139003 := aR HO_139003 hb; replace HO_139004 := aR HO_139004 hb; replace HO_150003 := aR HO_150003 hb; replace HO_150004 := aR HO_150004 hb; replace BK101 := aK BK101 hb; replace BK102 := aK BK102 hb; replace BK116 := aK BK116 hb; replace BK127 := aK BK127 hb; replace BK138 := aK BK138 hb; replace BK149 := aK BK149 hb; replace HB := aB HB hb; (try clear hb); (try clear hb2); (try clear hk); (try clear hi); have hnb108 := NB102_116.out; have hnc108 := NB116_102.out; have hnb109 := NB102_127.out; have hnc109 := NB127_102.out; have hnb110 := NB102_138.out; have hnc110 := NB138_102.out; have hnb111 := NB102_149.out; have hnc111 := NB149_102.out; have hcz112_0 : w107.cell? ⟨gb102, 0, none⟩ = some (.int .u64 a1_0) := (blk_cell BK102.out 0).trans rfl; have hcz112_1 : w107.cell? ⟨gb102, 1, none⟩ = some (.int .u64 a1_1) := (blk_cell BK102.out 1).trans rfl; have hcz112_2 : w107.cell? ⟨gb102, 2, none⟩ = some (.int .u64 a1_2) := (blk_cell BK102.out 2).trans rfl; have hcz112_3 : w107.cell? ⟨gb102, 3, none⟩ = some (.slice A1_3 l1_3.length c1_3) := (blk_cell BK102.out 3).trans rfl; have hcz112_4 : w107.cell? ⟨gb102, 4, none⟩ = some (.slice A1_4 l1_4.length c1_4) := (blk_cell BK102.out 4).trans rfl; have hfz112_0 := blk_frozen BK102.out 0; have hfz112_1 := blk_frozen BK102.out 1; have hfz112_2 := blk_frozen BK102.out 2; have hfz112_3 := blk_frozen BK102.out 3; have hfz112_4 := blk_frozen BK102.out 4) | (go_at_call 30; (with_reducible refine (ferruleref03_Good.calls kj24 a1_0 a1_1 a1_2 _ _ l1_3 _ _ l1_4 t172 _ ?side1 ?side2 ?side3 ?side4 A100.out).mono ?_); (case side1 => exact sW (Kd.C_below HR1_3.out HB.out)); (case side2 => exact HC1_3.out); (case side3 => exact sW (Kd.C_below HR1_4.out HB.out)); (case side4 => exact HC1_4.out); rintro e w113 ⟨rfl, hb⟩; replace HO_117003 := aR HO_117003 hb; replace HO_117004 := aR HO_117004 hb; replace HO_128003 := aR HO_128003 hb; replace HO_128004 := aR HO_128004 hb; replace HO_139003 := aR HO_139003 hb; replace HO_139004 := aR HO_139004 hb; replace HO_150003 := aR HO_150003 hb; replace HO_150004 := aR HO_150004 hb; replace BK101 := aK BK101 hb; replace BK102 := aK BK102 hb; replace BK116 := aK BK116 hb; replace BK127 := aK BK127 hb; replace BK138 := aK BK138 hb; replace BK149 := aK BK149 hb; replace HB := aB HB hb; (try clear hb); (try clear hb2); (try clear hk); (try clear hi)))
          go_meet
          case rel => exact ⟨_, (!t172), bS, H', ⟨by have := HJ4.out; have := HJ24.out; first | omega | exact Nat.le_refl _⟩, ⟨aRw HO_117003⟩, ⟨aRw HO_117004⟩, ⟨aRw HO_128003⟩, ⟨aRw HO_128004⟩, ⟨aRw HO_139003⟩, ⟨aRw HO_139004⟩, ⟨aRw HO_150003⟩, ⟨aRw HO_150004⟩, ⟨aKw BK101⟩, ⟨aKw BK102⟩, ⟨aKw BK116⟩, ⟨aKw BK127⟩, ⟨aKw BK138⟩, ⟨aKw BK149⟩, ⟨bB⟩⟩
         ·replace c99 := Bool.eq_false_iff.mpr c99
          subst c99
          have H1 : (ferrulelaw04_PrecEnds.j2 kj24 t115 t126 true a0_0 a0_1 a0_2 l0_3 l0_4 a1_0 a1_1 a1_2 l1_3 l1_4 t106 t107 t108 t109 t112 t117 t118 t119 t120 t123) = some r := by rw [if_neg (show ¬ (false = true) by decide)] at H; exact H
          clear H
          have H := H1
          clear H1
          have H' := Aside0.mk H
          clear H
          have hnb114 := NB101_102.out
          have hnc114 := NB102_101.out
          have hnb115 := NB101_116.out
          have hnc115 := NB116_101.out
          have hnb116 := NB101_127.out
          have hnc116 := NB127_101.out
          have hnb117 := NB101_138.out
          have hnc117 := NB138_101.out
          have hnb118 := NB101_149.out
          have hnc118 := NB149_101.out
          have hcz119_0 : wc.cell? ⟨gb101, 0, none⟩ = some (.int .u64 a0_0) := (blk_cell BK101.out 0).trans rfl
          have hcz119_1 : wc.cell? ⟨gb101, 1, none⟩ = some (.int .u64 a0_1) := (blk_cell BK101.out 1).trans rfl
          have hcz119_2 : wc.cell? ⟨gb101, 2, none⟩ = some (.int .u64 a0_2) := (blk_cell BK101.out 2).trans rfl
          have hcz119_3 : wc.cell? ⟨gb101, 3, none⟩ = some (.slice A0_3 l0_3.length c0_3) := (blk_cell BK101.out 3).trans rfl
          have hcz119_4 : wc.cell? ⟨gb101, 4, none⟩ = some (.slice A0_4 l0_4.length c0_4) := (blk_cell BK101.out 4).trans rfl
          have hfz119_0 := blk_frozen BK101.out 0
          have hfz119_1 := blk_frozen BK101.out 1
          have hfz119_2 := blk_frozen BK101.out 2
          have hfz119_3 := blk_frozen BK101.out 3
          have hfz119_4 := blk_frozen BK101.out 4
          go_wp2_with (first | ((with_reducible refine gate_callee (f := 30) rfl ?_); refine goesL_ (some 82) rfl rfl Tryd.func30 (by kernel_rfl) rfl #[.agg #[.int .u64 a0_0, .int .u64 a0_1, .int .u64 a0_2, .slice A0_3 l0_3.length c0_3, .slice A0_4 l0_4.length c0_4]] rfl bM ?_; (with_reducible refine (ferruleref03_Good.calls kj24 a0_0 a0_1 a0_2 _ _ l0_3 _ _ l0_4 false _ ?side1 ?side2 ?side3 ?side4 A98.out).mono ?_); (case side1 => exact sW (Kd.C_below HR0_3.out HB.out)); (case side2 => exact HC0_3.out); (case side3 => exact sW (Kd.C_below HR0_4.out HB.out)); (case side4 => exact HC0_4.out); rintro e w120 ⟨rfl, hb⟩; refine ⟨_, rfl, ?_⟩; replace HO_117003 := aR HO_117003 hb; replace HO_117004 := aR HO_117004 hb; replace HO_128003 := aR HO_128003 hb; replace HO_128004 := aR HO_128004 hb; replace HO_139003 := aR HO_139003 hb; replace HO_139004 := aR HO_139004 hb; replace HO_150003 := aR HO_150003 hb; replace HO_150004 := aR HO_150004 hb; replace BK101 := aK BK101 hb; replace BK102 := aK BK102 hb; replace BK116 := aK BK116 hb; replace BK127 := aK BK127 hb; replace BK138 := aK BK138 hb; replace BK149 := aK BK149 hb; replace HB := aB HB hb; (try clear hb); (try clear hb2); (try clear hk); (try clear hi)))
          go_meet
          case rel => exact ⟨_, (true), bS, H', ⟨by have := HJ4.out; have := HJ24.out; first | omega | exact Nat.le_refl _⟩, ⟨aRw HO_117003⟩, ⟨aRw HO_117004⟩, ⟨aRw HO_128003⟩, ⟨aRw HO_128004⟩, ⟨aRw HO_139003⟩, ⟨aRw HO_139004⟩, ⟨aRw HO_150003⟩, ⟨aRw HO_150004⟩, ⟨aKw BK101⟩, ⟨aKw BK102⟩, ⟨aKw BK116⟩, ⟨aKw BK127⟩, ⟨aKw BK138⟩, ⟨aKw BK149⟩, ⟨bB⟩⟩
        case rest =>
         clear HC97
         try clear c1
         try clear c2
         try clear p2
         try clear c3
         try clear p6
         try clear c7
         try clear c9
         try clear c10
         try clear c11
         try clear c27
         try clear c30
         try clear p64
         try clear c72
         try clear c96
         try clear c99
         try clear c101
         try clear c102
         try clear c103
         try clear c104
         try clear c105
         try clear c108
         try clear c109
         try clear c110
         try clear c111
         try clear c114
         try clear c115
         try clear c116
         try clear c117
         try clear c118
         try clear hcz106_0
         try clear hcz106_1
         try clear hcz106_2
         try clear hcz106_3
         try clear hcz106_4
         try clear hcz112_0
         try clear hcz112_1
         try clear hcz112_2
         try clear hcz112_3
         try clear hcz112_4
         try clear hcz119_0
         try clear hcz119_1
         try clear hcz119_2
         try clear hcz119_3
         try clear hcz119_4
         try clear hfz106_0
         try clear hfz106_1
         try clear hfz106_2
         try clear hfz106_3
         try clear hfz106_4
         try clear hfz112_0
         try clear hfz112_1
         try clear hfz112_2
         try clear hfz112_3
         try clear hfz112_4
         try clear hfz119_0
         try clear hfz119_1
         try clear hfz119_2
         try clear hfz119_3
         try clear hfz119_4
         try clear p2
         try clear p6
         try clear p64
         obtain ⟨kq, x88_96, rfl, HA, HJ96, HO_117003, HO_117004, HO_128003, HO_128004, HO_139003, HO_139004, HO_150003, HO_150004, BK101, BK102, BK116, BK127, BK138, BK149, HB⟩ := hcut
         cases kq with
         | zero => exact absurd HA.out (by simp [ferrulelaw04_PrecEnds.j2])
         | succ kj96 =>
          have H := HA.out
          clear HA
          simp only [ferrulelaw04_PrecEnds.j2] at H
          by_cases c121 : x88_96 = true
          ·subst c121
           have H1 : (some true) = some r := by rw [if_pos rfl] at H; exact H
           clear H
           have H := H1
           clear H1
           obtain rfl := Option.some.inj H
           go_wp2
           go_ret
           exact ⟨by first | rfl | (simp [errW_none, errW_some] <;> rfl) | (simp [*, errW_none, errW_some] <;> rfl), bB⟩
          ·replace c121 := Bool.eq_false_iff.mpr c121
           subst c121
           have H1 : (if t115 = true then ((prec_Compare.f kj96 a0_0 a0_1 a0_2 l0_3 l0_4 t106 t107 t108 t109 t112).bind fun t173 => (if t173 ≥ 0 then (ferrulelaw04_PrecEnds.j3 kj96 true a1_0 a1_1 a1_2 l1_3 l1_4) else (if t126 = true then ((prec_Compare.f kj96 a0_0 a0_1 a0_2 l0_3 l0_4 t117 t118 t119 t120 t123).bind fun t174 => (ferrulelaw04_PrecEnds.j3 kj96 (decide (t174 ≥ 0)) a1_0 a1_1 a1_2 l1_3 l1_4)) else (ferrulelaw04_PrecEnds.j3 kj96 false a1_0 a1_1 a1_2 l1_3 l1_4)))) else (if t126 = true then ((prec_Compare.f kj96 a0_0 a0_1 a0_2 l0_3 l0_4 t117 t118 t119 t120 t123).bind fun t175 => (ferrulelaw04_PrecEnds.j3 kj96 (decide (t175 ≥ 0)) a1_0 a1_1 a1_2 l1_3 l1_4)) else (ferrulelaw04_PrecEnds.j3 kj96 false a1_0 a1_1 a1_2 l1_3 l1_4))) = some r := by rw [if_neg (show ¬ (false = true) by decide)] at H; exact H
           clear H
           have H := H1
           clear H1
           have HC122 := Aside0.mk H
           clear H
           go_upto_region 13 with (fail)
           go_cut [104] (fun v104 wc => ∃ (kq : Nat) (x104_121 : Bool), v104 = .bool x104_121 ∧ Aside0 (ferrulelaw04_PrecEnds.j3 kq x104_121 a1_0 a1_1 a1_2 l1_3 l1_4 = some r) ∧ Aside0 (kq ≤ kj96) ∧ Aside0 (Kd.R Kd.string 9 wc w.heap.size (fun k_ => some k_ ≠ ob Ao34 t112 co34 ∧ some k_ ≠ ob Ao42 t120 co42 ∧ some k_ ≠ ob Ao43 t123 co43 ∧ some k_ ≠ ob Ao52 t131 co52 ∧ some k_ ≠ ob Ao53 t134 co53 ∧ some k_ ≠ ob Ao63 t142 co63 ∧ some k_ ≠ ob Ao64 t145 co64) (.slice Ao33 t109.length co33) t109) ∧ Aside0 (Kd.R Kd.string 9 wc w.heap.size (fun k_ => some k_ ≠ ob Ao33 t109 co33 ∧ some k_ ≠ ob Ao42 t120 co42 ∧ some k_ ≠ ob Ao43 t123 co43 ∧ some k_ ≠ ob Ao52 t131 co52 ∧ some k_ ≠ ob Ao53 t134 co53 ∧ some k_ ≠ ob Ao63 t142 co63 ∧ some k_ ≠ ob Ao64 t145 co64) (.slice Ao34 t112.length co34) t112) ∧ Aside0 (Kd.R Kd.string 9 wc w.heap.size (fun k_ => some k_ ≠ ob Ao33 t109 co33 ∧ some k_ ≠ ob Ao34 t112 co34 ∧ some k_ ≠ ob Ao43 t123 co43 ∧ some k_ ≠ ob Ao52 t131 co52 ∧ some k_ ≠ ob Ao53 t134 co53 ∧ some k_ ≠ ob Ao63 t142 co63 ∧ some k_ ≠ ob Ao64 t145 co64) (.slice Ao42 t120.length co42) t120) ∧ Aside0 (Kd.R Kd.string 9 wc w.heap.size (fun k_ => some k_ ≠ ob Ao33 t109 co33 ∧ some k_ ≠ ob Ao34 t112 co34 ∧ some k_ ≠ ob Ao42 t120 co42 ∧ some k_ ≠ ob Ao52 t131 co52 ∧ some k_ ≠ ob Ao53 t134 co53 ∧ some k_ ≠ ob Ao63 t142 co63 ∧ some k_ ≠ ob Ao64 t145 co64) (.slice Ao43 t123.length co43) t123) ∧ Aside0 (Kd.R Kd.string 9 wc w.heap.size (fun k_ => some k_ ≠ ob Ao33 t109 co33 ∧ some k_ ≠ ob Ao34 t112 co34 ∧ some k_ ≠ ob Ao42 t120 co42 ∧ some k_ ≠ ob Ao43 t123 co43 ∧ some k_ ≠ ob Ao53 t134 co53 ∧ some k_ ≠ ob Ao63 t142 co63 ∧ some k_ ≠ ob Ao64 t145 co64) (.slice Ao52 t131.length co52) t131) ∧ Aside0 (Kd.R Kd.string 9 wc w.heap.size (fun k_ => some k_ ≠ ob Ao33 t109 co33 ∧ some k_ ≠ ob Ao34 t112 co34 ∧ some k_ ≠ ob Ao42 t120 co42 ∧ some k_ ≠ ob Ao43 t123 co43 ∧ some k_ ≠ ob Ao52 t131 co52 ∧ some k_ ≠ ob Ao63 t142 co63 ∧ some k_ ≠ ob Ao64 t145 co64) (.slice Ao53 t134.length co53) t134) ∧ Aside0 (Kd.R Kd.string 9 wc w.heap.size (fun k_ => some k_ ≠ ob Ao33 t109 co33 ∧ some k_ ≠ ob Ao34 t112 co34 ∧ some k_ ≠ ob Ao42 t120 co42 ∧ some k_ ≠ ob Ao43 t123 co43 ∧ some k_ ≠ ob Ao52 t131 co52 ∧ some k_ ≠ ob Ao53 t134 co53 ∧ some k_ ≠ ob Ao64 t145 co64) (.slice Ao63 t142.length co63) t142) ∧ Aside0 (Kd.R Kd.string 9 wc w.heap.size (fun k_ => some k_ ≠ ob Ao33 t109 co33 ∧ some k_ ≠ ob Ao34 t112 co34 ∧ some k_ ≠ ob Ao42 t120 co42 ∧ some k_ ≠ ob Ao43 t123 co43 ∧ some k_ ≠ ob Ao52 t131 co52 ∧ some k_ ≠ ob Ao53 t134 co53 ∧ some k_ ≠ ob Ao63 t142 co63) (.slice Ao64 t145.length co64) t145) ∧ Aside0 (wc.heap[gb101]? = some (.cells #[.int .u64 a0_0, .int .u64 a0_1, .int .u64 a0_2, (.slice A0_3 l0_3.length c0_3), (.slice A0_4 l0_4.length c0_4)] 40 (0, 0))) ∧ Aside0 (wc.heap[gb102]? = some (.cells #[.int .u64 a1_0, .int .u64 a1_1, .int .u64 a1_2, (.slice A1_3 l1_3.length c1_3), (.slice A1_4 l1_4.length c1_4)] 40 (0, 0))) ∧ Aside0 (wc.heap[gb116]? = some (.cells #[.int .u64 t106, .int .u64 t107, .int .u64 t108, (.slice Ao33 t109.length co33), (.slice Ao34 t112.length co34)] 40 (0, 0))) ∧ Aside0 (wc.heap[gb127]? = some (.cells #[.int .u64 t117, .int .u64 t118, .int .u64 t119, (.slice Ao42 t120.length co42), (.slice Ao43 t123.length co43)] 40 (0, 0))) ∧ Aside0 (wc.heap[gb138]? = some (.cells #[.int .u64 t128, .int .u64 t129, .int .u64 t130, (.slice Ao52 t131.length co52), (.slice Ao53 t134.length co53)] 40 (0, 0))) ∧ Aside0 (wc.heap[gb149]? = some (.cells #[.int .u64 t139, .int .u64 t140, .int .u64 t141, (.slice Ao63 t142.length co63), (.slice Ao64 t145.length co64)] 40 (0, 0))) ∧ Aside0 (Below w.heap.size w wc))
           case first =>
            have H := HC122.out
            clear HC122
            by_cases c123 : t115 = true
            ·subst c123
             have H1 : ((prec_Compare.f kj96 a0_0 a0_1 a0_2 l0_3 l0_4 t106 t107 t108 t109 t112).bind fun t173 => (if t173 ≥ 0 then (ferrulelaw04_PrecEnds.j3 kj96 true a1_0 a1_1 a1_2 l1_3 l1_4) else (if t126 = true then ((prec_Compare.f kj96 a0_0 a0_1 a0_2 l0_3 l0_4 t117 t118 t119 t120 t123).bind fun t174 => (ferrulelaw04_PrecEnds.j3 kj96 (decide (t174 ≥ 0)) a1_0 a1_1 a1_2 l1_3 l1_4)) else (ferrulelaw04_PrecEnds.j3 kj96 false a1_0 a1_1 a1_2 l1_3 l1_4)))) = some r := by rw [if_pos rfl] at H; exact H
             clear H
             have H := H1
             clear H1
             replace H := Option.bind_eq_some_iff.mp H
             obtain ⟨t173, A1240, H⟩ := H
             replace H : (if t173 ≥ 0 then (ferrulelaw04_PrecEnds.j3 kj96 true a1_0 a1_1 a1_2 l1_3 l1_4) else (if t126 = true then ((prec_Compare.f kj96 a0_0 a0_1 a0_2 l0_3 l0_4 t117 t118 t119 t120 t123).bind fun t174 => (ferrulelaw04_PrecEnds.j3 kj96 (decide (t174 ≥ 0)) a1_0 a1_1 a1_2 l1_3 l1_4)) else (ferrulelaw04_PrecEnds.j3 kj96 false a1_0 a1_1 a1_2 l1_3 l1_4))) = some r := H
             have A124 := Aside0.mk A1240
             clear A1240
             by_cases c125 : t173 ≥ 0
             ·rw [if_pos c125] at H
              have c125b0 : decide (0 ≤ t173) = true := decide_eq_true c125
              clear c125
              (first | rw [c125b0] | (simp only [i64_w, i32_w]; rw [c125b0]) | skip)
              have H' := Aside0.mk H
              clear H
              have hnb126 := NB101_102.out
              have hnc126 := NB102_101.out
              have hnb127 := NB101_116.out
              have hnc127 := NB116_101.out
              have hnb128 := NB101_127.out
              have hnc128 := NB127_101.out
              have hnb129 := NB101_138.out
              have hnc129 := NB138_101.out
              have hnb130 := NB101_149.out
              have hnc130 := NB149_101.out
              have hcz131_0 : wc.cell? ⟨gb101, 0, none⟩ = some (.int .u64 a0_0) := (blk_cell BK101.out 0).trans rfl
              have hcz131_1 : wc.cell? ⟨gb101, 1, none⟩ = some (.int .u64 a0_1) := (blk_cell BK101.out 1).trans rfl
              have hcz131_2 : wc.cell? ⟨gb101, 2, none⟩ = some (.int .u64 a0_2) := (blk_cell BK101.out 2).trans rfl
              have hcz131_3 : wc.cell? ⟨gb101, 3, none⟩ = some (.slice A0_3 l0_3.length c0_3) := (blk_cell BK101.out 3).trans rfl
              have hcz131_4 : wc.cell? ⟨gb101, 4, none⟩ = some (.slice A0_4 l0_4.length c0_4) := (blk_cell BK101.out 4).trans rfl
              have hfz131_0 := blk_frozen BK101.out 0
              have hfz131_1 := blk_frozen BK101.out 1
              have hfz131_2 := blk_frozen BK101.out 2
              have hfz131_3 := blk_frozen BK101.out 3
              have hfz131_4 := blk_frozen BK101.out 4
              have hnb132 := NB116_102.out
              have hnc132 := NB102_116.out
              have hnb133 := NB116_127.out
              have hnc133 := NB127_116.out
              have hnb134 := NB116_138.out
              have hnc134 := NB138_116.out
              have hnb135 := NB116_149.out
              have hnc135 := NB149_116.out
              have hcz136_0 : wc.cell? ⟨gb116, 0, none⟩ = some (.int .u64 t106) := (blk_cell BK116.out 0).trans rfl
              have hcz136_1 : wc.cell? ⟨gb116, 1, none⟩ = some (.int .u64 t107) := (blk_cell BK116.out 1).trans rfl
              have hcz136_2 : wc.cell? ⟨gb116, 2, none⟩ = some (.int .u64 t108) := (blk_cell BK116.out 2).trans rfl
              have hcz136_3 : wc.cell? ⟨gb116, 3, none⟩ = some (.slice Ao33 t109.length co33) := (blk_cell BK116.out 3).trans rfl
              have hcz136_4 : wc.cell? ⟨gb116, 4, none⟩ = some (.slice Ao34 t112.length co34) := (blk_cell BK116.out 4).trans rfl
              have hfz136_0 := blk_frozen BK116.out 0
              have hfz136_1 := blk_frozen BK116.out 1
              have hfz136_2 := blk_frozen BK116.out 2
              have hfz136_3 := blk_frozen BK116.out 3
              have hfz136_4 := blk_frozen BK116.out 4
              go_wp2_with (first | (go_at_call 31; (with_reducible refine (prec_Compare.calls kj96 a0_0 a0_1 a0_2 _ _ l0_3 _ _ l0_4 t106 t107 t108 _ _ t109 _ _ t112 t173 _ ?side1 ?side2 ?side3 ?side4 ?side5 ?side6 ?side7 ?side8 A124.out).mono ?_); (case side1 => exact sW (Kd.C_below HR0_3.out HB.out)); (case side2 => exact HC0_3.out); (case side3 => exact sW (Kd.C_below HR0_4.out HB.out)); (case side4 => exact HC0_4.out); (case side5 => exact sW (Kd.R_reads' HO_117003.out).2.2); (case side6 => exact (Kd.R_reads' HO_117003.out).2.1); (case side7 => exact sW (Kd.R_reads' HO_117004.out).2.2); (case side8 => exact (Kd.R_reads' HO_117004.out).2.1); rintro e w137 ⟨rfl, hb⟩; replace HO_117003 := aR HO_117003 hb; replace HO_117004 := aR HO_117004 hb; replace HO_128003 := aR HO_128003 hb; replace HO_128004 := aR HO_128004 hb; replace HO_139003 := aR HO_139003 hb; replace HO_139004 := aR HO_139004 hb; replace HO_150003 := aR HO_150003 hb; replace HO_150004 := aR HO_150004 hb; replace BK101 := aK BK101 hb; replace BK102 := aK BK102 hb; replace BK116 := aK BK116 hb; replace BK127 := aK BK127 hb; replace BK138 := aK BK138 hb; replace BK149 := aK BK149 hb; replace HB := aB HB hb; (try clear hb); (try clear hb2); (try clear hk); (try clear hi)))
              go_meet
              case rel => exact ⟨_, (true), bS, H', ⟨by have := HJ4.out; have := HJ24.out; have := HJ96.out; first | omega | exact Nat.le_refl _⟩, ⟨aRw HO_117003⟩, ⟨aRw HO_117004⟩, ⟨aRw HO_128003⟩, ⟨aRw HO_128004⟩, ⟨aRw HO_139003⟩, ⟨aRw HO_139004⟩, ⟨aRw HO_150003⟩, ⟨aRw HO_150004⟩, ⟨aKw BK101⟩, ⟨aKw BK102⟩, ⟨aKw BK116⟩, ⟨aKw BK127⟩, ⟨aKw BK138⟩, ⟨aKw BK149⟩, ⟨bB⟩⟩
             ·rw [if_neg c125] at H
              have c125b0 : decide (0 ≤ t173) = false := decide_eq_false c125
              clear c125
              (first | rw [c125b0] | (simp only [i64_w, i32_w]; rw [c125b0]) | skip)
              by_cases c138 : t126 = true
              ·subst c138
               have H1 : ((prec_Compare.f kj96 a0_0 a0_1 a0_2 l0_3 l0_4 t117 t118 t119 t120 t123).bind fun t174 => (ferrulelaw04_PrecEnds.j3 kj96 (decide (t174 ≥ 0)) a1_0 a1_1 a1_2 l1_3 l1_4)) = some r := by rw [if_pos rfl] at H; exact H
               clear H
               have H := H1
               clear H1
               replace H := Option.bind_eq_some_iff.mp H
               obtain ⟨t174, A1390, H⟩ := H
               replace H : (ferrulelaw04_PrecEnds.j3 kj96 (decide (t174 ≥ 0)) a1_0 a1_1 a1_2 l1_3 l1_4) = some r := H
               have A139 := Aside0.mk A1390
               clear A1390
               have H' := Aside0.mk H
               clear H
               have hnb140 := NB101_102.out
               have hnc140 := NB102_101.out
               have hnb141 := NB101_116.out
               have hnc141 := NB116_101.out
               have hnb142 := NB101_127.out
               have hnc142 := NB127_101.out
               have hnb143 := NB101_138.out
               have hnc143 := NB138_101.out
               have hnb144 := NB101_149.out
               have hnc144 := NB149_101.out
               have hcz145_0 : wc.cell? ⟨gb101, 0, none⟩ = some (.int .u64 a0_0) := (blk_cell BK101.out 0).trans rfl
               have hcz145_1 : wc.cell? ⟨gb101, 1, none⟩ = some (.int .u64 a0_1) := (blk_cell BK101.out 1).trans rfl
               have hcz145_2 : wc.cell? ⟨gb101, 2, none⟩ = some (.int .u64 a0_2) := (blk_cell BK101.out 2).trans rfl
               have hcz145_3 : wc.cell? ⟨gb101, 3, none⟩ = some (.slice A0_3 l0_3.length c0_3) := (blk_cell BK101.out 3).trans rfl
               have hcz145_4 : wc.cell? ⟨gb101, 4, none⟩ = some (.slice A0_4 l0_4.length c0_4) := (blk_cell BK101.out 4).trans rfl
               have hfz145_0 := blk_frozen BK101.out 0
               have hfz145_1 := blk_frozen BK101.out 1
               have hfz145_2 := blk_frozen BK101.out 2
               have hfz145_3 := blk_frozen BK101.out 3
               have hfz145_4 := blk_frozen BK101.out 4
               have hnb146 := NB116_102.out
               have hnc146 := NB102_116.out
               have hnb147 := NB116_127.out
               have hnc147 := NB127_116.out
               have hnb148 := NB116_138.out
               have hnc148 := NB138_116.out
               have hnb149 := NB116_149.out
               have hnc149 := NB149_116.out
               have hcz150_0 : wc.cell? ⟨gb116, 0, none⟩ = some (.int .u64 t106) := (blk_cell BK116.out 0).trans rfl
               have hcz150_1 : wc.cell? ⟨gb116, 1, none⟩ = some (.int .u64 t107) := (blk_cell BK116.out 1).trans rfl
               have hcz150_2 : wc.cell? ⟨gb116, 2, none⟩ = some (.int .u64 t108) := (blk_cell BK116.out 2).trans rfl
               have hcz150_3 : wc.cell? ⟨gb116, 3, none⟩ = some (.slice Ao33 t109.length co33) := (blk_cell BK116.out 3).trans rfl
               have hcz150_4 : wc.cell? ⟨gb116, 4, none⟩ = some (.slice Ao34 t112.length co34) := (blk_cell BK116.out 4).trans rfl
               have hfz150_0 := blk_frozen BK116.out 0
               have hfz150_1 := blk_frozen BK116.out 1
               have hfz150_2 := blk_frozen BK116.out 2
               have hfz150_3 := blk_frozen BK116.out 3
               have hfz150_4 := blk_frozen BK116.out 4
               go_wp2_with (first | (go_at_call 31; (with_reducible refine (prec_Compare.calls kj96 a0_0 a0_1 a0_2 _ _ l0_3 _ _ l0_4 t106 t107 t108 _ _ t109 _ _ t112 t173 _ ?side1 ?side2 ?side3 ?side4 ?side5 ?side6 ?side7 ?side8 A124.out).mono ?_); (case side1 => exact sW (Kd.C_below HR0_3.out HB.out)); (case side2 => exact HC0_3.out); (case side3 => exact sW (Kd.C_below HR0_4.out HB.out)); (case side4 => exact HC0_4.out); (case side5 => exact sW (Kd.R_reads' HO_117003.out).2.2); (case side6 => exact (Kd.R_reads' HO_117003.out).2.1); (case side7 => exact sW (Kd.R_reads' HO_117004.out).2.2); (case side8 => exact (Kd.R_reads' HO_117004.out).2.1); rintro e w151 ⟨rfl, hb⟩; replace HO_117003 := aR HO_117003 hb; replace HO_117004 := aR HO_117004 hb; replace HO_128003 := aR HO_128003 hb; replace HO_128004 := aR HO_128004 hb; replace HO_139003 := aR HO_139003 hb; replace HO_139004 := aR HO_139004 hb; replace HO_150003 := aR HO_150003 hb; replace HO_150004 := aR HO_150004 hb; replace BK101 := aK BK101 hb; replace BK102 := aK BK102 hb; replace BK116 := aK BK116 hb; replace BK127 := aK BK127 hb; replace BK138 := aK BK138 hb; replace BK149 := aK BK149 hb; replace HB := aB HB hb; (try clear hb); (try clear hb2); (try clear hk); (try clear hi); have hcz152_0 : w151.cell? ⟨gb101, 0, none⟩ = some (.int .u64 a0_0) := (blk_cell BK101.out 0).trans rfl; have hcz152_1 : w151.cell? ⟨gb101, 1, none⟩ = some (.int .u64 a0_1) := (blk_cell BK101.out 1).trans rfl; have hcz152_2 : w151.cell? ⟨gb101, 2, none⟩ = some (.int .u64 a0_2) := (blk_cell BK101.out 2).trans rfl; have hcz152_3 : w151.cell? ⟨gb101, 3, none⟩ = some (.slice A0_3 l0_3.length c0_3) := (blk_cell BK101.out 3).trans rfl; have hcz152_4 : w151.cell? ⟨gb101, 4, none⟩ = some (.slice A0_4 l0_4.length c0_4) := (blk_cell BK101.out 4).trans rfl; have hfz152_0 := blk_frozen BK101.out 0; have hfz152_1 := blk_frozen BK101.out 1; have hfz152_2 := blk_frozen BK101.out 2; have hfz152_3 := blk_frozen BK101.out 3; have hfz152_4 := blk_frozen BK101.out 4; have hnb153 := NB127_102.out; have hnc153 := NB102_127.out; have hnb154 := NB127_138.out; have hnc154 := NB138_127.out; have hnb155 := NB127_149.out; have hnc155 := NB149_127.out; have hcz156_0 : w151.cell? ⟨gb127, 0, none⟩ = some (.int .u64 t117) := (blk_cell BK127.out 0).trans rfl; have hcz156_1 : w151.cell? ⟨gb127, 1, none⟩ = some (.int .u64 t118) := (blk_cell BK127.out 1).trans rfl; have hcz156_2 : w151.cell? ⟨gb127, 2, none⟩ = some (.int .u64 t119) := (blk_cell BK127.out 2).trans rfl; have hcz156_3 : w151.cell? ⟨gb127, 3, none⟩ = some (.slice Ao42 t120.length co42) := (blk_cell BK127.out 3).trans rfl; have hcz156_4 : w151.cell? ⟨gb127, 4, none⟩ = some (.slice Ao43 t123.length co43) := (blk_cell BK127.out 4).trans rfl; have hfz156_0 := blk_frozen BK127.out 0; have hfz156_1 := blk_frozen BK127.out 1; have hfz156_2 := blk_frozen BK127.out 2; have hfz156_3 := blk_frozen BK127.out 3; have hfz156_4 := blk_frozen BK127.out 4) | (go_at_call 31; (with_reducible refine (prec_Compare.calls kj96 a0_0 a0_1 a0_2 _ _ l0_3 _ _ l0_4 t117 t118 t119 _ _ t120 _ _ t123 t174 _ ?side1 ?side2 ?side3 ?side4 ?side5 ?side6 ?side7 ?side8 A139.out).mono ?_); (case side1 => exact sW (Kd.C_below HR0_3.out HB.out)); (case side2 => exact HC0_3.out); (case side3 => exact sW (Kd.C_below HR0_4.out HB.out)); (case side4 => exact HC0_4.out); (case side5 => exact sW (Kd.R_reads' HO_128003.out).2.2); (case side6 => exact (Kd.R_reads' HO_128003.out).2.1); (case side7 => exact sW (Kd.R_reads' HO_128004.out).2.2); (case side8 => exact (Kd.R_reads' HO_128004.out).2.1); rintro e w157 ⟨rfl, hb⟩; replace HO_117003 := aR HO_117003 hb; replace HO_117004 := aR HO_117004 hb; replace HO_128003 := aR HO_128003 hb; replace HO_128004 := aR HO_128004 hb; replace HO_139003 := aR HO_139003 hb; replace HO_139004 := aR HO_139004 hb; replace HO_150003 := aR HO_150003 hb; replace HO_150004 := aR HO_150004 hb; replace BK101 := aK BK101 hb; replace BK102 := aK BK102 hb; replace BK116 := aK BK116 hb; replace BK127 := aK BK127 hb; replace BK138 := aK BK138 hb; replace BK149 := aK BK149 hb; replace HB := aB HB hb; (try clear hb); (try clear hb2); (try clear hk); (try clear hi)))
               go_meet
               case rel => exact ⟨_, (decide (t174 ≥ 0)), bS, H', ⟨by have := HJ4.out; have := HJ24.out; have := HJ96.out; first | omega | exact Nat.le_refl _⟩, ⟨aRw HO_117003⟩, ⟨aRw HO_117004⟩, ⟨aRw HO_128003⟩, ⟨aRw HO_128004⟩, ⟨aRw HO_139003⟩, ⟨aRw HO_139004⟩, ⟨aRw HO_150003⟩, ⟨aRw HO_150004⟩, ⟨aKw BK101⟩, ⟨aKw BK102⟩, ⟨aKw BK116⟩, ⟨aKw BK127⟩, ⟨aKw BK138⟩, ⟨aKw BK149⟩, ⟨bB⟩⟩
              ·replace c138 := Bool.eq_false_iff.mpr c138
               subst c138
               have H1 : (ferrulelaw04_PrecEnds.j3 kj96 false a1_0 a1_1 a1_2 l1_3 l1_4) = some r := by rw [if_neg (show ¬ (false = true) by decide)] at H; exact H
               clear H
               have H := H1
               clear H1
               have H' := Aside0.mk H
               clear H
               have hnb158 := NB101_102.out
               have hnc158 := NB102_101.out
               have hnb159 := NB101_116.out
               have hnc159 := NB116_101.out
               have hnb160 := NB101_127.out
               have hnc160 := NB127_101.out
               have hnb161 := NB101_138.out
               have hnc161 := NB138_101.out
               have hnb162 := NB101_149.out
               have hnc162 := NB149_101.out
               have hcz163_0 : wc.cell? ⟨gb101, 0, none⟩ = some (.int .u64 a0_0) := (blk_cell BK101.out 0).trans rfl
               have hcz163_1 : wc.cell? ⟨gb101, 1, none⟩ = some (.int .u64 a0_1) := (blk_cell BK101.out 1).trans rfl
               have hcz163_2 : wc.cell? ⟨gb101, 2, none⟩ = some (.int .u64 a0_2) := (blk_cell BK101.out 2).trans rfl
               have hcz163_3 : wc.cell? ⟨gb101, 3, none⟩ = some (.slice A0_3 l0_3.length c0_3) := (blk_cell BK101.out 3).trans rfl
               have hcz163_4 : wc.cell? ⟨gb101, 4, none⟩ = some (.slice A0_4 l0_4.length c0_4) := (blk_cell BK101.out 4).trans rfl
               have hfz163_0 := blk_frozen BK101.out 0
               have hfz163_1 := blk_frozen BK101.out 1
               have hfz163_2 := blk_frozen BK101.out 2
               have hfz163_3 := blk_frozen BK101.out 3
               have hfz163_4 := blk_frozen BK101.out 4
               have hnb164 := NB116_102.out
               have hnc164 := NB102_116.out
               have hnb165 := NB116_127.out
               have hnc165 := NB127_116.out
               have hnb166 := NB116_138.out
               have hnc166 := NB138_116.out
               have hnb167 := NB116_149.out
               have hnc167 := NB149_116.out
               have hcz168_0 : wc.cell? ⟨gb116, 0, none⟩ = some (.int .u64 t106) := (blk_cell BK116.out 0).trans rfl
               have hcz168_1 : wc.cell? ⟨gb116, 1, none⟩ = some (.int .u64 t107) := (blk_cell BK116.out 1).trans rfl
               have hcz168_2 : wc.cell? ⟨gb116, 2, none⟩ = some (.int .u64 t108) := (blk_cell BK116.out 2).trans rfl
               have hcz168_3 : wc.cell? ⟨gb116, 3, none⟩ = some (.slice Ao33 t109.length co33) := (blk_cell BK116.out 3).trans rfl
               have hcz168_4 : wc.cell? ⟨gb116, 4, none⟩ = some (.slice Ao34 t112.length co34) := (blk_cell BK116.out 4).trans rfl
               have hfz168_0 := blk_frozen BK116.out 0
               have hfz168_1 := blk_frozen BK116.out 1
               have hfz168_2 := blk_frozen BK116.out 2
               have hfz168_3 := blk_frozen BK116.out 3
               have hfz168_4 := blk_frozen BK116.out 4
               go_wp2_with (first | (go_at_call 31; (with_reducible refine (prec_Compare.calls kj96 a0_0 a0_1 a0_2 _ _ l0_3 _ _ l0_4 t106 t107 t108 _ _ t109 _ _ t112 t173 _ ?side1 ?side2 ?side3 ?side4 ?side5 ?side6 ?side7 ?side8 A124.out).mono ?_); (case side1 => exact sW (Kd.C_below HR0_3.out HB.out)); (case side2 => exact HC0_3.out); (case side3 => exact sW (Kd.C_below HR0_4.out HB.out)); (case side4 => exact HC0_4.out); (case side5 => exact sW (Kd.R_reads' HO_117003.out).2.2); (case side6 => exact (Kd.R_reads' HO_117003.out).2.1); (case side7 => exact sW (Kd.R_reads' HO_117004.out).2.2); (case side8 => exact (Kd.R_reads' HO_117004.out).2.1); rintro e w169 ⟨rfl, hb⟩; replace HO_117003 := aR HO_117003 hb; replace HO_117004 := aR HO_117004 hb; replace HO_128003 := aR HO_128003 hb; replace HO_128004 := aR HO_128004 hb; replace HO_139003 := aR HO_139003 hb; replace HO_139004 := aR HO_139004 hb; replace HO_150003 := aR HO_150003 hb; replace HO_150004 := aR HO_150004 hb; replace BK101 := aK BK101 hb; replace BK102 := aK BK102 hb; replace BK116 := aK BK116 hb; replace BK127 := aK BK127 hb; replace BK138 := aK BK138 hb; replace BK149 := aK BK149 hb; replace HB := aB HB hb; (try clear hb); (try clear hb2); (try clear hk); (try clear hi)))
               go_meet
               case rel => exact ⟨_, (false), bS, H', ⟨by have := HJ4.out; have := HJ24.out; have := HJ96.out; first | omega | exact Nat.le_refl _⟩, ⟨aRw HO_117003⟩, ⟨aRw HO_117004⟩, ⟨aRw HO_128003⟩, ⟨aRw HO_128004⟩, ⟨aRw HO_139003⟩, ⟨aRw HO_139004⟩, ⟨aRw HO_150003⟩, ⟨aRw HO_150004⟩, ⟨aKw BK101⟩, ⟨aKw BK102⟩, ⟨aKw BK116⟩, ⟨aKw BK127⟩, ⟨aKw BK138⟩, ⟨aKw BK149⟩, ⟨bB⟩⟩
            ·replace c123 := Bool.eq_false_iff.mpr c123
             subst c123
             have H1 : (if t126 = true then ((prec_Compare.f kj96 a0_0 a0_1 a0_2 l0_3 l0_4 t117 t118 t119 t120 t123).bind fun t175 => (ferrulelaw04_PrecEnds.j3 kj96 (decide (t175 ≥ 0)) a1_0 a1_1 a1_2 l1_3 l1_4)) else (ferrulelaw04_PrecEnds.j3 kj96 false a1_0 a1_1 a1_2 l1_3 l1_4)) = some r := by rw [if_neg (show ¬ (false = true) by decide)] at H; exact H
             clear H
             have H := H1
             clear H1
             by_cases c170 : t126 = true
             ·subst c170
              have H1 : ((prec_Compare.f kj96 a0_0 a0_1 a0_2 l0_3 l0_4 t117 t118 t119 t120 t123).bind fun t175 => (ferrulelaw04_PrecEnds.j3 kj96 (decide (t175 ≥ 0)) a1_0 a1_1 a1_2 l1_3 l1_4)) = some r := by rw [if_pos rfl] at H; exact H
              clear H
              have H := H1
              clear H1
              replace H := Option.bind_eq_some_iff.mp H
              obtain ⟨t175, A1710, H⟩ := H
              replace H : (ferrulelaw04_PrecEnds.j3 kj96 (decide (t175 ≥ 0)) a1_0 a1_1 a1_2 l1_3 l1_4) = some r := H
              have A171 := Aside0.mk A1710
              clear A1710
              have H' := Aside0.mk H
              clear H
              have hnb172 := NB101_102.out
              have hnc172 := NB102_101.out
              have hnb173 := NB101_116.out
              have hnc173 := NB116_101.out
              have hnb174 := NB101_127.out
              have hnc174 := NB127_101.out
              have hnb175 := NB101_138.out
              have hnc175 := NB138_101.out
              have hnb176 := NB101_149.out
              have hnc176 := NB149_101.out
              have hcz177_0 : wc.cell? ⟨gb101, 0, none⟩ = some (.int .u64 a0_0) := (blk_cell BK101.out 0).trans rfl
              have hcz177_1 : wc.cell? ⟨gb101, 1, none⟩ = some (.int .u64 a0_1) := (blk_cell BK101.out 1).trans rfl
              have hcz177_2 : wc.cell? ⟨gb101, 2, none⟩ = some (.int .u64 a0_2) := (blk_cell BK101.out 2).trans rfl
              have hcz177_3 : wc.cell? ⟨gb101, 3, none⟩ = some (.slice A0_3 l0_3.length c0_3) := (blk_cell BK101.out 3).trans rfl
              have hcz177_4 : wc.cell? ⟨gb101, 4, none⟩ = some (.slice A0_4 l0_4.length c0_4) := (blk_cell BK101.out 4).trans rfl
              have hfz177_0 := blk_frozen BK101.out 0
              have hfz177_1 := blk_frozen BK101.out 1
              have hfz177_2 := blk_frozen BK101.out 2
              have hfz177_3 := blk_frozen BK101.out 3
              have hfz177_4 := blk_frozen BK101.out 4
              have hnb178 := NB127_102.out
              have hnc178 := NB102_127.out
              have hnb179 := NB127_116.out
              have hnc179 := NB116_127.out
              have hnb180 := NB127_138.out
              have hnc180 := NB138_127.out
              have hnb181 := NB127_149.out
              have hnc181 := NB149_127.out
              have hcz182_0 : wc.cell? ⟨gb127, 0, none⟩ = some (.int .u64 t117) := (blk_cell BK127.out 0).trans rfl
              have hcz182_1 : wc.cell? ⟨gb127, 1, none⟩ = some (.int .u64 t118) := (blk_cell BK127.out 1).trans rfl
              have hcz182_2 : wc.cell? ⟨gb127, 2, none⟩ = some (.int .u64 t119) := (blk_cell BK127.out 2).trans rfl
              have hcz182_3 : wc.cell? ⟨gb127, 3, none⟩ = some (.slice Ao42 t120.length co42) := (blk_cell BK127.out 3).trans rfl
              have hcz182_4 : wc.cell? ⟨gb127, 4, none⟩ = some (.slice Ao43 t123.length co43) := (blk_cell BK127.out 4).trans rfl
              have hfz182_0 := blk_frozen BK127.out 0
              have hfz182_1 := blk_frozen BK127.out 1
              have hfz182_2 := blk_frozen BK127.out 2
              have hfz182_3 := blk_frozen BK127.out 3
              have hfz182_4 := blk_frozen BK127.out 4
              go_wp2_with (first | (go_at_call 31; (with_reducible refine (prec_Compare.calls kj96 a0_0 a0_1 a0_2 _ _ l0_3 _ _ l0_4 t117 t118 t119 _ _ t120 _ _ t123 t175 _ ?side1 ?side2 ?side3 ?side4 ?side5 ?side6 ?side7 ?side8 A171.out).mono ?_); (case side1 => exact sW (Kd.C_below HR0_3.out HB.out)); (case side2 => exact HC0_3.out); (case side3 => exact sW (Kd.C_below HR0_4.out HB.out)); (case side4 => exact HC0_4.out); (case side5 => exact sW (Kd.R_reads' HO_128003.out).2.2); (case side6 => exact (Kd.R_reads' HO_128003.out).2.1); (case side7 => exact sW (Kd.R_reads' HO_128004.out).2.2); (case side8 => exact (Kd.R_reads' HO_128004.out).2.1); rintro e w183 ⟨rfl, hb⟩; replace HO_117003 := aR HO_117003 hb; replace HO_117004 := aR HO_117004 hb; replace HO_128003 := aR HO_128003 hb; replace HO_128004 := aR HO_128004 hb; replace HO_139003 := aR HO_139003 hb; replace HO_139004 := aR HO_139004 hb; replace HO_150003 := aR HO_150003 hb; replace HO_150004 := aR HO_150004 hb; replace BK101 := aK BK101 hb; replace BK102 := aK BK102 hb; replace BK116 := aK BK116 hb; replace BK127 := aK BK127 hb; replace BK138 := aK BK138 hb; replace BK149 := aK BK149 hb; replace HB := aB HB hb; (try clear hb); (try clear hb2); (try clear hk); (try clear hi)))
              go_meet
              case rel => exact ⟨_, (decide (t175 ≥ 0)), bS, H', ⟨by have := HJ4.out; have := HJ24.out; have := HJ96.out; first | omega | exact Nat.le_refl _⟩, ⟨aRw HO_117003⟩, ⟨aRw HO_117004⟩, ⟨aRw HO_128003⟩, ⟨aRw HO_128004⟩, ⟨aRw HO_139003⟩, ⟨aRw HO_139004⟩, ⟨aRw HO_150003⟩, ⟨aRw HO_150004⟩, ⟨aKw BK101⟩, ⟨aKw BK102⟩, ⟨aKw BK116⟩, ⟨aKw BK127⟩, ⟨aKw BK138⟩, ⟨aKw BK149⟩, ⟨bB⟩⟩
             ·replace c170 := Bool.eq_false_iff.mpr c170
              subst c170
              have H1 : (ferrulelaw04_PrecEnds.j3 kj96 false a1_0 a1_1 a1_2 l1_3 l1_4) = some r := by rw [if_neg (show ¬ (false = true) by decide)] at H; exact H
              clear H
              have H := H1
              clear H1
              have H' := Aside0.mk H
              clear H
              go_wp2
              go_meet
              case rel => exact ⟨_, (false), bS, H', ⟨by have := HJ4.out; have := HJ24.out; have := HJ96.out; first | omega | exact Nat.le_refl _⟩, ⟨aRw HO_117003⟩, ⟨aRw HO_117004⟩, ⟨aRw HO_128003⟩, ⟨aRw HO_128004⟩, ⟨aRw HO_139003⟩, ⟨aRw HO_139004⟩, ⟨aRw HO_150003⟩, ⟨aRw HO_150004⟩, ⟨aKw BK101⟩, ⟨aKw BK102⟩, ⟨aKw BK116⟩, ⟨aKw BK127⟩, ⟨aKw BK138⟩, ⟨aKw BK149⟩, ⟨bB⟩⟩
           case rest =>
            clear HC122
            try clear c1
            try clear c2
            try clear p2
            try clear c3
            try clear p6
            try clear c7
            try clear c9
            try clear c10
            try clear c11
            try clear c12
            try clear c13
            try clear c14
            try clear c15
            try clear c16
            try clear c17
            try clear c18
            try clear c27
            try clear c30
            try clear p64
            try clear c72
            try clear c96
            try clear c99
            try clear c101
            try clear c102
            try clear c103
            try clear c104
            try clear c105
            try clear c108
            try clear c109
            try clear c110
            try clear c111
            try clear c114
            try clear c115
            try clear c116
            try clear c117
            try clear c118
            try clear c121
            try clear c123
            try clear c125
            try clear c125b0
            try clear c126
            try clear c127
            try clear c128
            try clear c129
            try clear c130
            try clear c132
            try clear c133
            try clear c134
            try clear c135
            try clear c138
            try clear c140
            try clear c141
            try clear c142
            try clear c143
            try clear c144
            try clear c146
            try clear c147
            try clear c148
            try clear c149
            try clear c153
            try clear c154
            try clear c155
            try clear c158
            try clear c159
            try clear c160
            try clear c161
            try clear c162
            try clear c164
            try clear c165
            try clear c166
            try clear c167
            try clear c170
            try clear c172
            try clear c173
            try clear c174
            try clear c175
            try clear c176
            try clear c178
            try clear c179
            try clear c180
            try clear c181
            try clear hcz106_0
            try clear hcz106_1
            try clear hcz106_2
            try clear hcz106_3
            try clear hcz106_4
            try clear hcz112_0
            try clear hcz112_1
            try clear hcz112_2
            try clear hcz112_3
            try clear hcz112_4
            try clear hcz119_0
            try clear hcz119_1
            try clear hcz119_2
            try clear hcz119_3
            try clear hcz119_4
            try clear hcz131_0
            try clear hcz131_1
            try clear hcz131_2
            try clear hcz131_3
            try clear hcz131_4
            try clear hcz136_0
            try clear hcz136_1
            try clear hcz136_2
            try clear hcz136_3
            try clear hcz136_4
            try clear hcz145_0
            try clear hcz145_1
            try clear hcz145_2
            try clear hcz145_3
            try clear hcz145_4
            try clear hcz150_0
            try clear hcz150_1
            try clear hcz150_2
            try clear hcz150_3
            try clear hcz150_4
            try clear hcz152_0
            try clear hcz152_1
            try clear hcz152_2
            try clear hcz152_3
            try clear hcz152_4
            try clear hcz156_0
            try clear hcz156_1
            try clear hcz156_2
            try clear hcz156_3
            try clear hcz156_4
            try clear hcz163_0
            try clear hcz163_1
            try clear hcz163_2
            try clear hcz163_3
            try clear hcz163_4
            try clear hcz168_0
            try clear hcz168_1
            try clear hcz168_2
            try clear hcz168_3
            try clear hcz168_4
            try clear hcz177_0
            try clear hcz177_1
            try clear hcz177_2
            try clear hcz177_3
            try clear hcz177_4
            try clear hcz182_0
            try clear hcz182_1
            try clear hcz182_2
            try clear hcz182_3
            try clear hcz182_4
            try clear hfz106_0
            try clear hfz106_1
            try clear hfz106_2
            try clear hfz106_3
            try clear hfz106_4
            try clear hfz112_0
            try clear hfz112_1
            try clear hfz112_2
            try clear hfz112_3
            try clear hfz112_4
            try clear hfz119_0
            try clear hfz119_1
            try clear hfz119_2
            try clear hfz119_3
            try clear hfz119_4
            try clear hfz131_0
            try clear hfz131_1
            try clear hfz131_2
            try clear hfz131_3
            try clear hfz131_4
            try clear hfz136_0
            try clear hfz136_1
            try clear hfz136_2
            try clear hfz136_3
            try clear hfz136_4
            try clear hfz145_0
            try clear hfz145_1
            try clear hfz145_2
            try clear hfz145_3
            try clear hfz145_4
            try clear hfz150_0
            try clear hfz150_1
            try clear hfz150_2
            try clear hfz150_3
            try clear hfz150_4
            try clear hfz152_0
            try clear hfz152_1
            try clear hfz152_2
            try clear hfz152_3
            try clear hfz152_4
            try clear hfz156_0
            try clear hfz156_1
            try clear hfz156_2
            try clear hfz156_3
            try clear hfz156_4
            try clear hfz163_0
            try clear hfz163_1
            try clear hfz163_2
            try clear hfz163_3
            try clear hfz163_4
            try clear hfz168_0
            try clear hfz168_1
            try clear hfz168_2
            try clear hfz168_3
            try clear hfz168_4
            try clear hfz177_0
            try clear hfz177_1
            try clear hfz177_2
            try clear hfz177_3
            try clear hfz177_4
            try clear hfz182_0
            try clear hfz182_1
            try clear hfz182_2
            try clear hfz182_3
            try clear hfz182_4
            try clear p2
            try clear p6
            try clear p64
            obtain ⟨kq, x104_121, rfl, HA, HJ121, HO_117003, HO_117004, HO_128003, HO_128004, HO_139003, HO_139004, HO_150003, HO_150004, BK101, BK102, BK116, BK127, BK138, BK149, HB⟩ := hcut
            cases kq with
            | zero => exact absurd HA.out (by simp [ferrulelaw04_PrecEnds.j3])
            | succ kj121 =>
             have H := HA.out
             clear HA
             simp only [ferrulelaw04_PrecEnds.j3] at H
             by_cases c184 : x104_121 = true
             ·subst c184
              have H1 : (some false) = some r := by rw [if_pos rfl] at H; exact H
              clear H
              have H := H1
              clear H1
              obtain rfl := Option.some.inj H
              go_wp2
              go_ret
              exact ⟨by first | rfl | (simp [errW_none, errW_some] <;> rfl) | (simp [*, errW_none, errW_some] <;> rfl), bB⟩
             ·replace c184 := Bool.eq_false_iff.mpr c184
              subst c184
              have H1 : ((prec_First.f a1_0 a1_1 a1_2).bind fun bt176 => ((prec_Compare.f kj121 bt176.1 bt176.2.1 bt176.2.2.1 bt176.2.2.2.1 bt176.2.2.2.2 a1_0 a1_1 a1_2 l1_3 l1_4).bind fun t185 => (some (decide (t185 ≤ 0))))) = some r := by rw [if_neg (show ¬ (false = true) by decide)] at H; exact H
              clear H
              have H := H1
              clear H1
              replace H := Option.bind_eq_some_iff.mp H
              obtain ⟨⟨t176, t177, t178, t179, t182⟩, A1850, H⟩ := H
              replace H : ((prec_Compare.f kj121 t176 t177 t178 t179 t182 a1_0 a1_1 a1_2 l1_3 l1_4).bind fun t185 => (some (decide (t185 ≤ 0)))) = some r := H
              have A185 := Aside0.mk A1850
              clear A1850
              replace H := Option.bind_eq_some_iff.mp H
              obtain ⟨t185, A1860, H⟩ := H
              replace H : (some (decide (t185 ≤ 0))) = some r := H
              have A186 := Aside0.mk A1860
              clear A1860
              obtain rfl := Option.some.inj H
              try go_wp2
              replace HO_117003 := Aside0.mk (Kd.R_drew HO_117003.out)
              replace HO_117004 := Aside0.mk (Kd.R_drew HO_117004.out)
              replace HO_128003 := Aside0.mk (Kd.R_drew HO_128003.out)
              replace HO_128004 := Aside0.mk (Kd.R_drew HO_128004.out)
              replace HO_139003 := Aside0.mk (Kd.R_drew HO_139003.out)
              replace HO_139004 := Aside0.mk (Kd.R_drew HO_139004.out)
              replace HO_150003 := Aside0.mk (Kd.R_drew HO_150003.out)
              replace HO_150004 := Aside0.mk (Kd.R_drew HO_150004.out)
              replace BK101 := Aside0.mk (blk_drew BK101.out)
              replace BK102 := Aside0.mk (blk_drew BK102.out)
              replace BK116 := Aside0.mk (blk_drew BK116.out)
              replace BK127 := Aside0.mk (blk_drew BK127.out)
              replace BK138 := Aside0.mk (blk_drew BK138.out)
              replace BK149 := Aside0.mk (blk_drew BK149.out)
              replace HB := Aside0.mk (below_drew1 HB.out)
              refine start_ (n := 11) (S := fun w' => w'.cell? ⟨gb102, 0, none⟩ = some (.int .u64 a1_0) ∧ w'.cell? ⟨gb102, 1, none⟩ = some (.int .u64 a1_1) ∧ w'.cell? ⟨gb102, 2, none⟩ = some (.int .u64 a1_2) ∧ w'.cell? ⟨gb102, 3, none⟩ = some (.slice A1_3 l1_3.length c1_3) ∧ w'.cell? ⟨gb102, 4, none⟩ = some (.slice A1_4 l1_4.length c1_4)) (ds := []) #[false, false, false, false, false, false, false, false, false, false, false] (by kernel_rfl) rfl rfl ⟨(blk_cell BK102.out 0).trans rfl, (blk_cell BK102.out 1).trans rfl, (blk_cell BK102.out 2).trans rfl, (blk_cell BK102.out 3).trans rfl, (blk_cell BK102.out 4).trans rfl⟩ (fun hHeld => ?_); refine with_tabW ferrulelaw04_PrecEnds.tab15 ferrulelaw04_PrecEnds.bits15 (fun HT_ HW_ => ?_)
              generalize wc.drew = w187 at HO_117003 HO_117004 HO_128003 HO_128004 HO_139003 HO_139004 HO_150003 HO_150004 BK101 BK102 BK116 BK127 BK138 BK149 HB hHeld ⊢
              refine pV 0 105 rfl rfl ?_
              refine pV 2 107 rfl rfl ?_
              refine pV 4 109 rfl rfl ?_
              refine tV 1 106 rfl rfl ?_
              refine tV 3 108 rfl rfl ?_
              refine tV 5 110 rfl rfl ?_
              refine tV 7 112 rfl rfl ?_
              refine one_ (i := 6) (N := some 111) #[true, true, true, true, true, true, true, true, false, false, false] rfl rfl (one_of HT_.out (by kernel_rfl)) (by decide) (fun K hK => ?_)
              refine goes_ Tryd.func28 (by kernel_rfl) rfl #[.int .u64 a1_0, .int .u64 a1_1, .int .u64 a1_2] (by rfl) rfl rfl bM ?_
              with_reducible refine (prec_First.calls a1_0 a1_1 a1_2 t176 t177 t178 t179 t182 _ A185.out).mono ?_
              rintro e w188 ⟨v180, v183, rfl, ho0, ho1, hb⟩
              refine ⟨_, rfl, ?_⟩
              have HO181 := Aside0.mk (Kd.R_lower (Kd.R_new' (Kd.R_new' (Kd.R_new' (Kd.R_new' (Kd.R_new' (Kd.R_new' (Kd.R_new' (Kd.R_new' ho0 (Kd.R_lt (aRw HO_117003))) (Kd.R_lt (aRw HO_117004))) (Kd.R_lt (aRw HO_128003))) (Kd.R_lt (aRw HO_128004))) (Kd.R_lt (aRw HO_139003))) (Kd.R_lt (aRw HO_139004))) (Kd.R_lt (aRw HO_150003))) (Kd.R_lt (aRw HO_150004))) (below_size bB))
              have HO184 := Aside0.mk (Kd.R_lower (Kd.R_new' (Kd.R_new' (Kd.R_new' (Kd.R_new' (Kd.R_new' (Kd.R_new' (Kd.R_new' (Kd.R_new' ho1 (Kd.R_lt (aRw HO_117003))) (Kd.R_lt (aRw HO_117004))) (Kd.R_lt (aRw HO_128003))) (Kd.R_lt (aRw HO_128004))) (Kd.R_lt (aRw HO_139003))) (Kd.R_lt (aRw HO_139004))) (Kd.R_lt (aRw HO_150003))) (Kd.R_lt (aRw HO_150004))) (below_size bB))
              replace HO_117003 := Aside0.mk (Kd.R_mono (Kd.R_told (Kd.R_told (Kd.R_old (aRw HO_117003) hb) (Kd.R_base ho0)) (Kd.R_base ho1)) (fun _ h_ => h_.1))
              replace HO_117004 := Aside0.mk (Kd.R_mono (Kd.R_told (Kd.R_told (Kd.R_old (aRw HO_117004) hb) (Kd.R_base ho0)) (Kd.R_base ho1)) (fun _ h_ => h_.1))
              replace HO_128003 := Aside0.mk (Kd.R_mono (Kd.R_told (Kd.R_told (Kd.R_old (aRw HO_128003) hb) (Kd.R_base ho0)) (Kd.R_base ho1)) (fun _ h_ => h_.1))
              replace HO_128004 := Aside0.mk (Kd.R_mono (Kd.R_told (Kd.R_told (Kd.R_old (aRw HO_128004) hb) (Kd.R_base ho0)) (Kd.R_base ho1)) (fun _ h_ => h_.1))
              replace HO_139003 := Aside0.mk (Kd.R_mono (Kd.R_told (Kd.R_told (Kd.R_old (aRw HO_139003) hb) (Kd.R_base ho0)) (Kd.R_base ho1)) (fun _ h_ => h_.1))
              replace HO_139004 := Aside0.mk (Kd.R_mono (Kd.R_told (Kd.R_told (Kd.R_old (aRw HO_139004) hb) (Kd.R_base ho0)) (Kd.R_base ho1)) (fun _ h_ => h_.1))
              replace HO_150003 := Aside0.mk (Kd.R_mono (Kd.R_told (Kd.R_told (Kd.R_old (aRw HO_150003) hb) (Kd.R_base ho0)) (Kd.R_base ho1)) (fun _ h_ => h_.1))
              replace HO_150004 := Aside0.mk (Kd.R_mono (Kd.R_told (Kd.R_told (Kd.R_old (aRw HO_150004) hb) (Kd.R_base ho0)) (Kd.R_base ho1)) (fun _ h_ => h_.1))
              replace BK101 := aK BK101 hb
              replace BK102 := aK BK102 hb
              replace BK116 := aK BK116 hb
              replace BK127 := aK BK127 hb
              replace BK138 := aK BK138 hb
              replace BK149 := aK BK149 hb
              replace HB := aB HB hb
              (try clear hb)
              (try clear hb2)
              (try clear hk)
              (try clear hi)
              (try clear ho0)
              (try clear ho1)
              obtain ⟨Ao189, co189, eo189⟩ := Kd.R_slice HO181.out
              (first | subst eo189 | (injection eo189 with f1_ f2_ f3_; have f4_ := f1_.symm; have f5_ := f3_.symm; clear f1_ f2_ f3_; subst f4_; subst f5_))
              obtain ⟨Ao190, co190, eo190⟩ := Kd.R_slice HO184.out
              (first | subst eo190 | (injection eo190 with f1_ f2_ f3_; have f4_ := f1_.symm; have f5_ := f3_.symm; clear f1_ f2_ f3_; subst f4_; subst f5_))
              refine hK.out _ _ ⟨(blk_cell BK102.out 0).trans rfl, (blk_cell BK102.out 1).trans rfl, (blk_cell BK102.out 2).trans rfl, (blk_cell BK102.out 3).trans rfl, (blk_cell BK102.out 4).trans rfl⟩ (fun hHeld => ?_)
              clear hK K
              refine norm_ (a' := ?_) ?_ ?_
              rotate_left
              ·show Act.put _ (some 111) _ = _
               simp only [Act.put, List.setIfInBounds_toArray, List.set_cons_zero, List.set_cons_succ, i64_w, i32_w]
               rfl
              refine one_ (i := 8) (N := some 113) #[true, true, true, true, true, true, true, true, true, false, false] rfl rfl (one_of HT_.out (by kernel_rfl)) (by decide) (fun K hK => ?_)
              refine goes_ Tryd.func31 (by kernel_rfl) rfl #[.agg #[.int .u64 t176, .int .u64 t177, .int .u64 t178, .slice Ao189 t179.length co189, .slice Ao190 t182.length co190], .agg #[.int .u64 a1_0, .int .u64 a1_1, .int .u64 a1_2, .slice A1_3 l1_3.length c1_3, .slice A1_4 l1_4.length c1_4]] (by rfl) rfl rfl bM ?_
              with_reducible refine (prec_Compare.calls kj121 t176 t177 t178 _ _ t179 _ _ t182 a1_0 a1_1 a1_2 _ _ l1_3 _ _ l1_4 t185 _ ?side1 ?side2 ?side3 ?side4 ?side5 ?side6 ?side7 ?side8 A186.out).mono ?_
              (case side1 => exact sW (Kd.R_reads' HO181.out).2.2)
              (case side2 => exact (Kd.R_reads' HO181.out).2.1)
              (case side3 => exact sW (Kd.R_reads' HO184.out).2.2)
              (case side4 => exact (Kd.R_reads' HO184.out).2.1)
              (case side5 => exact sW (Kd.C_below HR1_3.out HB.out))
              (case side6 => exact HC1_3.out)
              (case side7 => exact sW (Kd.C_below HR1_4.out HB.out))
              (case side8 => exact HC1_4.out)
              rintro e w191 ⟨rfl, hb⟩
              refine ⟨_, rfl, ?_⟩
              replace HO_117003 := aR HO_117003 hb
              replace HO_117004 := aR HO_117004 hb
              replace HO_128003 := aR HO_128003 hb
              replace HO_128004 := aR HO_128004 hb
              replace HO_139003 := aR HO_139003 hb
              replace HO_139004 := aR HO_139004 hb
              replace HO_150003 := aR HO_150003 hb
              replace HO_150004 := aR HO_150004 hb
              replace HO181 := aR HO181 hb
              replace HO184 := aR HO184 hb
              replace BK101 := aK BK101 hb
              replace BK102 := aK BK102 hb
              replace BK116 := aK BK116 hb
              replace BK127 := aK BK127 hb
              replace BK138 := aK BK138 hb
              replace BK149 := aK BK149 hb
              replace HB := aB HB hb
              (try clear hb)
              (try clear hb2)
              (try clear hk)
              (try clear hi)
              refine hK.out _ _ ⟨(blk_cell BK102.out 0).trans rfl, (blk_cell BK102.out 1).trans rfl, (blk_cell BK102.out 2).trans rfl, (blk_cell BK102.out 3).trans rfl, (blk_cell BK102.out 4).trans rfl⟩ (fun hHeld => ?_)
              clear hK K
              refine norm_ (a' := ?_) ?_ ?_
              rotate_left
              ·show Act.put _ (some 113) _ = _
               simp only [Act.put, List.setIfInBounds_toArray, List.set_cons_zero, List.set_cons_succ, i64_w, i32_w]
               rfl
              refine pV 9 114 rfl rfl ?_
              refine pV 10 4 rfl rfl ?_
              refine done_ (done_of HT_.out (by kernel_rfl)) ?_
              try go_wp2
              go_ret
              exact ⟨by first | rfl | (simp [errW_none, errW_some] <;> rfl) | (simp [*, errW_none, errW_some] <;> rfl), bB⟩
 ·replace c4 := Bool.eq_false_iff.mpr c4
  subst c4
  have H1 : (some false) = some r := by rw [if_neg (show ¬ (false = true) by decide)] at H; exact H
  clear H
  have H := H1
  clear H1
  obtain rfl := Option.some.inj H
  go_enter Tryd.func6, Tryd.ntmps6
  go_wp2_with (first | ((with_reducible refine gate_dst (N := 2) rfl ?_); refine box_event ?hg (N := 2) ?hd (cs := #[.int .u64 a0_0, .int .u64 a0_1, .int .u64 a0_2, .slice A0_3 l0_3.length c0_3, .slice A0_4 l0_4.length c0_4]) (t := 40) ?hr ?_; (case hd => rfl); (case hg => rfl); (case hr => first | (go_simp; done) | (go_simp; rfl)); intro gb101 hg w192 hbox hb; have BK101 := Aside0.mk hbox; have GW101 := Aside0.mk ((by rw [hg]; exact (below_size bB) : w.heap.size ≤ gb101)); have GE101 := Aside0.mk ((by rw [hg]; exact (below_size bB) : w.heap.size ≤ gb101)); replace HB := aB HB hb; clear hb hbox hg) | ((with_reducible refine gate_dst (N := 3) rfl ?_); refine box_event ?hg (N := 3) ?hd (cs := #[.int .u64 a1_0, .int .u64 a1_1, .int .u64 a1_2, .slice A1_3 l1_3.length c1_3, .slice A1_4 l1_4.length c1_4]) (t := 40) ?hr ?_; (case hd => rfl); (case hg => rfl); (case hr => first | (go_simp; done) | (go_simp; rfl)); intro gb102 hg w193 hbox hb; have BK102 := Aside0.mk hbox; have GW102 := Aside0.mk ((by rw [hg]; exact (below_size bB) : w.heap.size ≤ gb102)); have GE102 := Aside0.mk ((by rw [hg]; exact (below_size bB) : w.heap.size ≤ gb102)); replace HB := aB HB hb; have NB101_102 := Aside0.mk ((by rw [hg]; exact Nat.ne_of_lt (blk_lt (g := gb101) (o := .cells #[.int .u64 a0_0, .int .u64 a0_1, .int .u64 a0_2, .slice A0_3 l0_3.length c0_3, .slice A0_4 l0_4.length c0_4] 40 (0, 0)) (aKw BK101)) : gb101 ≠ gb102)); have NB102_101 := Aside0.mk ((by rw [hg]; exact Nat.ne_of_gt (blk_lt (g := gb101) (o := .cells #[.int .u64 a0_0, .int .u64 a0_1, .int .u64 a0_2, .slice A0_3 l0_3.length c0_3, .slice A0_4 l0_4.length c0_4] 40 (0, 0)) (aKw BK101)) : gb102 ≠ gb101)); replace BK101 := aK BK101 hb; clear hb hbox hg) | ((with_reducible refine gate_callee (f := 21) rfl ?_); refine goesL_ (some 13) rfl rfl Tryd.func21 (by kernel_rfl) rfl #[] rfl bM ?_; (with_reducible refine (ferrulelaw04_awake.calls k  false _ A3.out).mono ?_); rintro e w194 ⟨rfl, hb⟩; refine ⟨_, rfl, ?_⟩; replace BK101 := aK BK101 hb; replace BK102 := aK BK102 hb; replace HB := aB HB hb; (try clear hb); (try clear hb2); (try clear hk); (try clear hi)))
  go_ret
  exact ⟨by first | rfl | (simp [errW_none, errW_some] <;> rfl) | (simp [*, errW_none, errW_some] <;> rfl), bB⟩

def ferrulelaw04_PrecEnds.Pure : Prop := ∀ (a0_0 : Int) (a0_1 : Int) (a0_2 : Int) (l0_3 : List ByteArray) (l0_4 : List ByteArray) (a1_0 : Int) (a1_1 : Int) (a1_2 : Int) (l1_3 : List ByteArray) (l1_4 : List ByteArray), (Lit.int .u64 a0_0).wf = true → (Lit.int .u64 a0_1).wf = true → (Lit.int .u64 a0_2).wf = true → (fun l : (List ByteArray) => l.length ≤ maxLen ∧ ∀ x ∈ l, (fun s : ByteArray => s.size ≤ maxLen) x) l0_3 → (fun l : (List ByteArray) => l.length ≤ maxLen ∧ ∀ x ∈ l, (fun s : ByteArray => s.size ≤ maxLen) x) l0_4 → (Lit.int .u64 a1_0).wf = true → (Lit.int .u64 a1_1).wf = true → (Lit.int .u64 a1_2).wf = true → (fun l : (List ByteArray) => l.length ≤ maxLen ∧ ∀ x ∈ l, (fun s : ByteArray => s.size ≤ maxLen) x) l1_3 → (fun l : (List ByteArray) => l.length ≤ maxLen ∧ ∀ x ∈ l, (fun s : ByteArray => s.size ≤ maxLen) x) l1_4 → ∃ k, ferrulelaw04_PrecEnds.f k a0_0 a0_1 a0_2 l0_3 l0_4 a1_0 a1_1 a1_2 l1_3 l1_4 = some true

end Go.Proofs.YtildmfegfkiknaaDoor.X
