-- Written by a program of this session (wip/xp), out of the translation. Not trusted: Lean checks it.
import Derived.Test.YtohgjbkiemnfnaaX0
import Derived.Test.YtohgjbkiemnfnaaXn38
import Derived.Lib.RabinKarpLaws
import Derived.LoopTactic
import Derived.Outline
import Derived.Test.YtohgjbkiemnfnaaFun
import Derived.Test.YtohgjbkiemnfnaaLayClo
import Derived.Test.YtohgjbkiemnfnaaLayFnn
import Derived.Test.YtohgjbkiemnfnaaOwn
-- shrunk
namespace Go.Proofs.Ytohgjbkiemnfnaa.X
open Go.RowKit Go.Proofs.YtohgjbkiemnfnaaW.PrintWords Go.Proofs.YtohgjbkiemnfnaaW.PrintLast Go.Proofs.YtohgjbkiemnfnaaW.PrintMore
attribute [local go_sem] Lab.str_gtr Lab.str_leq Lab.str_geq max2_int min2_int max_two min_two max_three min_three max_four min_four   -- for this text's walks alone
set_option linter.unusedVariables false
set_option linter.unusedSimpArgs false

/-! ### clause_Models: function 31 -/
-- imports: Derived.Test.YtohgjbkiemnfnaaLayFnn Derived.Test.YtohgjbkiemnfnaaLayClo Derived.Test.YtohgjbkiemnfnaaFun Derived.Test.YtohgjbkiemnfnaaOwn Derived.LoopTactic Derived.Outline Derived.Lib.RabinKarpLaws
/-- Does a clause hold? -/
def clause_Models.holds (a : List Bool) (c : List Int) : Bool := c.any fun x => decide (clause_Holds.tr x a > 0)
/-- The n-th assignment. -/
def clause_Models.bits (V n : Nat) : List Bool := (List.range V).map fun i => decide (n / 2 ^ (V - 1 - i) % 2 = 1)
def clause_Models.good (l : List (List Int)) (a : List Bool) : Bool := !(l.any fun c => !(clause_Models.holds a c))
def clause_Models.upto (l : List (List Int)) (V n : Nat) : List (List Bool) := ((List.range n).map (clause_Models.bits V)).filter (clause_Models.good l)
def clause_Models.f (l0 : List (List Int)) (a1 : Int) : Option (List (List Bool)) := if a1 < 0 ∨ a1 > 12 then some [] else some (clause_Models.upto l0 a1.toNat (2 ^ a1.toNat))
theorem clause_Models.clo (x : List Int) (Ax : Option Addr) (cx : Nat) (A1 : Option Addr) (c1 : Nat) (a : List Bool) (B : Nat) (W : World) (hx : Kd.C (Kd.int .i64) W Ax x.length x) (hcx : x.length ≤ cx) (hc : W.cell? ⟨B, 0, none⟩ = some (.slice A1 a.length c1)) (ha : Kd.C Kd.bool W A1 a.length a) (hca : a.length ≤ c1) :
 Calls Try.prog 63 (#[.slice Ax x.length cx] ++ #[.pointer (some ⟨B, 0, none⟩)]) W fun e W' => e = .returned (.bool (!(clause_Models.holds a x))) ∧ Below W.heap.size W W' := by
 have hh := clause_Holds.calls Ax cx x A1 c1 a (clause_Models.holds a x) W hx hcx ha hca rfl
 generalize clause_Models.holds a x = b at hh ⊢
 have HX := Aside0.mk hx
 have HA := Aside0.mk ha
 clear hx ha
 show Calls Try.prog 63 #[.slice Ax x.length cx, .pointer (some ⟨B, 0, none⟩)] W _
 go_enter Try.func63, Try.ntmps63
 go_wp2_with (go_at_call 38; with_reducible refine hh.mono ?_; rintro e w' ⟨rfl, hb⟩)
 go_ret
 exact ⟨rfl, hb⟩
theorem clause_Models.infoB : (Try.prog.info? 4).map (fun i => (i.zero, i.size, i.bytes)) = some (some (.bool false), 1, 1) := by kernel_rfl
theorem clause_Models.infoS : (Try.prog.info? 38).map (fun i => (i.zero, i.size, i.bytes)) = some (some (.slice none 0 0), 1, 24) := by kernel_rfl
theorem clause_Models.upto_step (l : List (List Int)) (V n : Nat) : clause_Models.upto l V (n + 1) = clause_Models.upto l V n ++ (if clause_Models.good l (clause_Models.bits V n) = true then [clause_Models.bits V n] else []) := by
 unfold clause_Models.upto
 rw [List.range_succ, List.map_append, List.filter_append, List.map_singleton]
 congr 1
 by_cases h : clause_Models.good l (clause_Models.bits V n) = true
 ·rw [if_pos h, List.filter_cons_of_pos h]; rfl
 ·rw [if_neg h, List.filter_cons_of_neg h]; rfl
theorem clause_Models.pow_w (k N : Nat) (hN : 2 ^ k = N) (h : N ≤ 4096) : wrap64 ((2 : Int) ^ k) = (N : Int) := by
 rw [show ((2 : Int) ^ k) = ((2 ^ k : Nat) : Int) by simp, hN]
 unfold wrap64; omega
theorem clause_Models.suc_w (n N : Nat) (hn : n < N) (h : N ≤ 4096) : wrap64 ((n : Int) + 1) = (n : Int) + 1 := by unfold wrap64; omega
theorem clause_Models.more (n N k : Nat) (hN : 2 ^ k = N) (h : N ≤ 4096) (hl : n + 1 < N) : decide ((n : Int) + 1 < wrap64 ((2 : Int) ^ k)) = true ∧ ((n : Int) + 1 < wrap64 ((2 : Int) ^ k)) := by
 rw [clause_Models.pow_w k N hN h]
 exact ⟨decide_eq_true (by omega), by omega⟩
theorem clause_Models.done (n N k : Nat) (hN : 2 ^ k = N) (h : N ≤ 4096) (hn : n < N) (hl : ¬ n + 1 < N) : decide ((n : Int) + 1 < wrap64 ((2 : Int) ^ k)) = false ∧ ¬ ((n : Int) + 1 < wrap64 ((2 : Int) ^ k)) := by
 rw [clause_Models.pow_w k N hN h]
 exact ⟨decide_eq_false (by omega), by omega⟩
set_option maxHeartbeats 2000000 in
set_option maxRecDepth 100000 in
theorem clause_Models.callsR (A0 : Option Addr) (c0 : Nat) (l0 : List (List Int)) (a1 : Int) (r : List (List Bool)) (w : World) (hr0 : Kd.C (Kd.slice 22 (Kd.int .i64)) w A0 l0.length l0) (hc0 : l0.length ≤ c0) (h : clause_Models.f l0 a1 = some r) :
 Calls Try.prog 31 #[.slice A0 l0.length c0, .int .i64 a1] w fun e w' => ∃ v0_ : Value, e = .returned v0_ ∧ Kd.R (Kd.slice 4 Kd.bool) 38 w' w.heap.size (fun _ => True) v0_ r ∧ Below w.heap.size w w' := by
 unfold clause_Models.f at h
 have HR := Aside0.mk hr0
 clear hr0
 split at h
 case isTrue hc =>
  obtain rfl := Option.some.inj h
  clear h
  by_cases hneg : a1 < 0
  ·skip
   go_enter Try.func31, Try.ntmps31
   go_wp2
   refine Lab.wp_scope_lab (Lab.scopeOf Try.f31) ?sc 0 ?_
   case sc => kernel_rfl
   go_wp2
   (try simp only [Exit.then, Exit.inBlock, Lab.gotos])
   go_ret
   exact ⟨_, rfl, Kd.R_nil _ _ _ _ _, Below.refl _ _⟩
  ·have hbig : a1 > 12 := by omega
   go_enter Try.func31, Try.ntmps31
   go_wp2
   refine Lab.wp_scope_lab (Lab.scopeOf Try.f31) ?sc 0 ?_
   case sc => kernel_rfl
   go_wp2
   (try simp only [Exit.then, Exit.inBlock, Lab.gotos])
   go_ret
   exact ⟨_, rfl, Kd.R_nil _ _ _ _ _, Below.refl _ _⟩
 case isFalse hc =>
  obtain rfl := Option.some.inj h
  clear h
  obtain ⟨V, rfl⟩ : ∃ V : Nat, a1 = V := ⟨a1.toNat, by omega⟩
  have hV : V ≤ 12 := by omega
  have hn0 : ¬ ((V : Int) < 0) := by omega
  have hn1 : ¬ ((V : Int) > 12) := by omega
  rw [Int.toNat_natCast]
  have hN1 : 1 ≤ 2 ^ V := Nat.one_le_two_pow
  obtain ⟨N, hN⟩ : ∃ N : Nat, 2 ^ V = N := ⟨_, rfl⟩
  rw [hN] at hN1 ⊢
  have hN12 : N ≤ 4096 := by rw [← hN]; exact (Nat.pow_le_pow_right (by decide) hV : 2 ^ V ≤ 2 ^ 12)
  have HN := Aside0.mk hN
  clear hN
  go_enter Try.func31, Try.ntmps31
  go_wp2
  refine Lab.wp_scope_lab (Lab.scopeOf Try.f31) ?sc N ?_
  case sc => kernel_rfl
  go_wp2
  go_step3
  go_step
  (try go_step)
  refine Lab.wp_at_label (l := 0) (fun a0_ kq a_ w_ => ∃ u5 u7 : Value, (∃ n : Nat, n < N ∧ N - n ≤ kq + 1 ∧ u7 = .int .i64 n ∧ Aside0 (Kd.R (Kd.slice 4 Kd.bool) 38 w_ w.heap.size (fun k => k ≠ w.heap.size) u5 (clause_Models.upto l0 V n)) ∧ Aside0 (Below w.heap.size w w_) ∧ Aside0 (w.heap.size < w_.heap.size) ∧ Aside0 (∃ bl : List Bool, bl.length = 12 ∧ w_.heap[w.heap.size]? = some (.cells (bl.map Value.bool).toArray 75 (0, 0)))) ∧ a_ = ((((((((((((((((((((((((((((((((((((((a0_.put (some 4) (Lab.tmp a_ 4)).put (some 5) u5).put (some 7) u7).put (some 8) (Lab.tmp a_ 8)).put (some 9) (Lab.tmp a_ 9)).put (some 16) (Lab.tmp a_ 16)).put (some 17) (Lab.tmp a_ 17)).put (some 18) (Lab.tmp a_ 18)).put (some 19) (Lab.tmp a_ 19)).put (some 20) (Lab.tmp a_ 20)).put (some 21) (Lab.tmp a_ 21)).put (some 22) (Lab.tmp a_ 22)).put (some 23) (Lab.tmp a_ 23)).put (some 24) (Lab.tmp a_ 24)).put (some 25) (Lab.tmp a_ 25)).put (some 26) (Lab.tmp a_ 26)).put (some 27) (Lab.tmp a_ 27)).put (some 28) (Lab.tmp a_ 28)).put (some 29) (Lab.tmp a_ 29)).put (some 30) (Lab.tmp a_ 30)).put (some 31) (Lab.tmp a_ 31)).put (some 32) (Lab.tmp a_ 32)).put (some 33) (Lab.tmp a_ 33)).put (some 34) (Lab.tmp a_ 34)).put (some 35) (Lab.tmp a_ 35)).put (some 36) (Lab.tmp a_ 36)).put (some 37) (Lab.tmp a_ 37)).put (some 38) (Lab.tmp a_ 38)).put (some 39) (Lab.tmp a_ 39)).put (some 40) (Lab.tmp a_ 40)).put (some 41) (Lab.tmp a_ 41)).put (some 42) (Lab.tmp a_ 42)).put (some 43) (Lab.tmp a_ 43)).put (some 44) (Lab.tmp a_ 44)).put (some 45) (Lab.tmp a_ 45)).put (some 46) (Lab.tmp a_ 46)).put (some 47) (Lab.tmp a_ 47)).put (some 48) (Lab.tmp a_ 48))) (N - 1) ?fl (by omega) ?atStart ?round
  case fl => kernel_rfl
  case atStart =>
   (repeat apply Exists.intro)
   refine ⟨?rel, ?fr⟩
   case fr => (simp only [Act.put, List.setIfInBounds_toArray, List.set_cons_zero, List.set_cons_succ] <;> rfl)
   case rel => exact ⟨0, by omega, by omega, rfl, ⟨Kd.R_nil _ _ _ _ _⟩, ⟨below_alloc (Below.refl _ _) _⟩, ⟨by simp⟩, ⟨List.replicate 12 false, rfl, heap_alloc_new w _⟩⟩
  case round =>
   intro gq a_ W1 hle_ hinv HIH
   clear hle_
   obtain ⟨u5, u7, hrel, hfr_⟩ := hinv
   generalize hU_ : Lab.tmp a_ = U_ at hfr_
   clear hU_
   subst hfr_
   simp only [Act.put, List.setIfInBounds_toArray, List.set_cons_zero, List.set_cons_succ]
   obtain ⟨n, hn, hfu, rfl, HO, HB, HS, HC⟩ := hrel
   have HIH' := Aside0.mk HIH
   clear HIH
   go_wp2
   go_loopg [17] V (fun gg s17 wr => ∃ k : Nat, k ≤ V ∧ V - k ≤ gg ∧ s17 = .int .i64 k ∧ Aside0 (W1.grownBy wr (some w.heap.size)) ∧ Aside0 (wr.heap.size = W1.heap.size) ∧ Aside0 (∃ bl : List Bool, bl.length = 12 ∧ wr.heap[w.heap.size]? = some (.cells (bl.map Value.bool).toArray 75 (0, 0)) ∧ ∀ j, j < k → bl[j]? = (clause_Models.bits V n)[j]?))
   case atStart =>
    obtain ⟨bl, h1, h2⟩ := HC.out
    exact ⟨0, Nat.zero_le _, by omega, rfl, ⟨⟨rfl, rfl, rfl, Nat.le_refl _, fun _ _ _ => rfl⟩⟩, ⟨rfl⟩, ⟨bl, h1, h2, fun j hj => absurd hj (Nat.not_lt_zero _)⟩⟩
   case round =>
    obtain ⟨k, hk, hg, rfl, HG, HZ, HL⟩ := hrel
    by_cases hlt : k < V
    ·have hltz : (k : Int) < (V : Int) := by omega
     obtain ⟨bl, h1, h2, h3⟩ := HL.out
     have hk12 : k < bl.length := by omega
     have hcell : wr.cell? ⟨w.heap.size, k, none⟩ = some (.bool bl[k]) := by
      simp [World.cell?, h2, List.getElem?_eq_getElem hk12]
     have hfz : wr.frozen? ⟨w.heap.size, k, none⟩ = false := by simp [World.frozen?, h2]
     have HL2 := Aside0.mk h2
     have HL3 := Aside0.mk h3
     clear h2 h3 HL
     go_wp2
     go_roundg (V - (k + 1))
     case measure => omega
     case rel =>
      have hv : (Go.bits BinOp.and IntKind.i64 ((n : Int) / 2 ^ (V - 1 - k)) 1 == 1) = decide (n / 2 ^ (V - 1 - k) % 2 = 1) := by
       rw [show ((n : Int) / 2 ^ (V - 1 - k)) = ((n / 2 ^ (V - 1 - k) : Nat) : Int) by simp]
       rw [and_one _ (Nat.lt_of_le_of_lt (Nat.div_le_self _ _) (by omega))]
       rw [Bool.eq_iff_iff, beq_iff_eq, decide_eq_true_eq]
       omega
      rw [hv]
      have hk' : k < (bl.map Value.bool).toArray.size := by simpa using hk12
      refine ⟨k + 1, by omega, by omega, by go_num, ⟨?_⟩, ⟨?_⟩, ⟨bl.set k (decide (n / 2 ^ (V - 1 - k) % 2 = 1)), by simpa using h1, ?_, ?_⟩⟩
      ·exact ⟨HG.out.os, HG.out.tape, HG.out.output, by simpa [World.setCell] using HG.out.size, fun q hq hne => (Below.heap_setCell _ _ _ q (fun e => hne (by rw [e]))).trans (HG.out.block q hq hne)⟩
      ·simpa [World.setCell] using HZ.out
      ·simp only [World.setCell, Array.getElem?_modify, if_pos, HL2.out]
       simp [List.map_set]
      ·intro j hj
       by_cases e : j = k
       ·subst e
        rw [List.getElem?_set_self hk12]
        simp [clause_Models.bits, List.getElem?_range, hlt]
       ·rw [List.getElem?_set_ne (by omega)]
        exact HL3.out j (by omega)
    ·have hltz : ¬ (k : Int) < (V : Int) := by omega
     obtain rfl : k = V := by omega
     obtain ⟨bl, h1, h2, h3⟩ := HL.out
     have hlb : (clause_Models.bits k n).length = k := by simp [clause_Models.bits]
     have hbl : bl.take k = clause_Models.bits k n := by
      apply List.ext_getElem?
      intro j
      by_cases hj : j < k
      ·rw [List.getElem?_take, if_pos hj, h3 j hj]
      ·rw [List.getElem?_eq_none (by rw [List.length_take]; omega), List.getElem?_eq_none (by omega)]
     have hcells : ∀ j u, ((clause_Models.bits k n).map Value.bool)[j]? = some u → wr.cell? ⟨w.heap.size, 0 + j, none⟩ = some u := by
      intro j u hu
      rw [← hbl, List.map_take, List.getElem?_take] at hu
      split at hu
      ·simp only [World.cell?, h2, Nat.zero_add]
       simpa using hu
      ·cases hu
     have hCa : Kd.C Kd.bool wr (some ⟨w.heap.size, 0, none⟩) k (clause_Models.bits k n) := by
      refine ⟨hlb, by omega, fun _ => ⟨_, rfl, fun j p hj => ⟨[.bool p], rfl, rfl, fun i u hu => ?_⟩⟩⟩
      cases i with
      | succ i => simp at hu
      | zero =>
       obtain rfl : Value.bool p = u := by simpa using hu
       show wr.cell? ((⟨w.heap.size, 0, none⟩ : Addr).add (j * 1 + 0)) = _
       rw [show j * 1 + 0 = j by omega, show (⟨w.heap.size, 0, none⟩ : Addr).add j = ⟨w.heap.size, 0 + j, none⟩ from by unfold Addr.add; split <;> simp_all]
       exact hcells j _ (by rw [List.getElem?_map, hj]; rfl)
     have eg : ∀ args w, (callFunc 63 args).run Try.prog w = .ok (.enter 63 args) w := enters_of Try.func63 (by kernel_rfl) rfl
     have hBw : Below w.heap.size w wr := pw_below_grown HB.out _ HB.out.size HG.out (fun q hq => by injection hq with hq; omega)
     have hcon := Fun.contains_func Try.contains_ints (Kd.slice 22 (Kd.int .i64)) rfl (fun c => !(clause_Models.holds (clause_Models.bits k n) c)) 63 #[.pointer (some ⟨wr.heap.size, 0, none⟩)] eg A0 c0 l0 (wr.alloc (.cells #[.slice (some ⟨w.heap.size, 0, none⟩) k 12] 38)) (Kd.C_alloc (Kd.C_below HR.out hBw) _)
      (fun x _ u hu W hb => by
       obtain ⟨Ax, cx, hu', hcx, hx⟩ := hu
       obtain rfl := (List.cons.inj hu').1
       have hc1 : W.cell? ⟨wr.heap.size, 0, none⟩ = some (.slice (some ⟨w.heap.size, 0, none⟩) (clause_Models.bits k n).length 12) := (hb.cell (p := ⟨wr.heap.size, 0, none⟩) (by simp)).trans (by simp [hlb])
       exact clause_Models.clo x Ax cx (some ⟨w.heap.size, 0, none⟩) 12 (clause_Models.bits k n) wr.heap.size W (Kd.C_below hx hb) hcx hc1 (Kd.C_below (Kd.C_alloc (by rw [hlb]; exact hCa) _) hb) (by omega))
     change Calls Try.prog 62 _ _ _ at hcon
     obtain ⟨gd, hgd⟩ : ∃ gd, (l0.any fun c => !(clause_Models.holds (clause_Models.bits k n) c)) = gd := ⟨_, rfl⟩
     rw [hgd] at hcon
     have HGD := Aside0.mk hgd
     clear hgd
     have HCELLS := Aside0.mk hcells
     have hBlt : w.heap.size < wr.heap.size := by have := HZ.out; have := HS.out; omega
     have HOr := Aside0.mk (Kd.R_grown HO.out HG.out (fun q hq he => hq (by injection he)))
     have HL2 := Aside0.mk h2
     have hlt_ := clause_Models.more n N k HN.out hN12
     have hge_ := clause_Models.done n N k HN.out hN12
     clear hCa hcells h2 h3 hbl
     have hup := clause_Models.upto_step l0 k n
     unfold clause_Models.good at hup
     cases gd with
     | true =>
      have hup2 : clause_Models.upto l0 k (n + 1) = clause_Models.upto l0 k n := by rw [hup, HGD.out]; simp
      have HUP := Aside0.mk hup2
      clear hup hup2
      by_cases hlast : n + 1 < N
      ·as_aux_lemma =>
       obtain ⟨hl1, hl2⟩ := hlt_ hlast
       clear hlt_ hge_
       go_wp2_with (go_at_call 62; with_reducible refine hcon.mono ?_; rintro e w2 ⟨rfl, hb2⟩)
       have hbw2 : Below wr.heap.size wr w2 := below_step (below_alloc (Below.refl _ _) _) hb2
       go_step3
       (try simp only [Exit.then, Exit.inBlock, Lab.gotos])
       refine Lab.again HIH'.out (gq - 1) ?lm1 ?lm2 ?lm3
       case lm1 => omega
       case lm2 => omega
       case lm3 =>
        (repeat apply Exists.intro)
        refine ⟨?rel, ?fr⟩
        case fr => (simp only [Act.put, List.setIfInBounds_toArray, List.set_cons_zero, List.set_cons_succ] <;> rfl)
        case rel => exact ⟨n + 1, hlast, by omega, congrArg (Value.int .i64) (Int.natCast_succ n).symm, ⟨by rw [HUP.out]; exact Kd.R_below HOr.out hbw2⟩, ⟨hBw.trans (hbw2.mono (Nat.le_of_lt hBlt))⟩, ⟨Nat.lt_of_lt_of_le hBlt hbw2.size⟩, ⟨bl, h1, (hbw2.block _ hBlt).trans HL2.out⟩⟩
      ·as_aux_lemma =>
       obtain ⟨hl1, hl2⟩ := hge_ hn hlast
       clear hlt_ hge_
       go_wp2_with (go_at_call 62; with_reducible refine hcon.mono ?_; rintro e w2 ⟨rfl, hb2⟩)
       have hbw2 : Below wr.heap.size wr w2 := below_step (below_alloc (Below.refl _ _) _) hb2
       (try simp only [Exit.then, Exit.inBlock, Lab.gotos])
       go_ret
       refine ⟨_, rfl, ?_, hBw.trans (hbw2.mono (Nat.le_of_lt hBlt))⟩
       have e : n + 1 = N := by omega
       rw [← e, HUP.out]
       exact Kd.R_mono (Kd.R_below HOr.out hbw2) (fun _ _ => trivial)
     | false =>
      have hup2 : clause_Models.upto l0 k (n + 1) = clause_Models.upto l0 k n ++ [clause_Models.bits k n] := by rw [hup, HGD.out]; simp
      have HUP := Aside0.mk hup2
      clear hup hup2
      obtain ⟨i0, hi, hz0, hz1, hz2⟩ := info_parts clause_Models.infoB
      have hcl : ∀ W, Below wr.heap.size wr W → Calls Try.prog 64 #[.slice (some ⟨w.heap.size, 0, none⟩) k 12] W fun e w' => ∃ v', e = .returned v' ∧ w'.ownsRow W.heap.size 4 1 v' k ((clause_Models.bits k n).map Value.bool) ∧ v' ≠ .slice none 0 0 ∧ Below W.heap.size W w' := fun W hbW =>
       AnyE.slices_Clone Try.clone_bool i0 (.bool false) 1 1 hi hz0 hz1 hz2 rfl (by decide) Try.sizeOf4 w.heap.size 0 k 12 ((clause_Models.bits k n).map Value.bool) W (by simp [hlb]) (by unfold maxLen; omega) (by omega) (fun j u hu => (hbW.cell (p := ⟨w.heap.size, 0 + j, none⟩) hBlt).trans (HCELLS.out j u hu)) (fun u hu => by obtain ⟨b, _, rfl⟩ := List.mem_map.mp hu; rfl)
      by_cases hlast : n + 1 < N
      ·as_aux_lemma =>
       obtain ⟨hl1, hl2⟩ := hlt_ hlast
       clear hlt_ hge_
       go_wp2_with (go_at_call 62; with_reducible refine hcon.mono ?_; rintro e w2 ⟨rfl, hb2⟩; have hca2 : w2.cell? ⟨wr.heap.size, 0, none⟩ = some (.slice (some ⟨w.heap.size, 0, none⟩) k 12) := (hb2.cell (p := ⟨wr.heap.size, 0, none⟩) (by simp)).trans (by simp); have hbw2 : Below wr.heap.size wr w2 := below_step (below_alloc (Below.refl _ _) _) hb2)
       refine (hcl w2 hbw2).mono ?_
       rintro e w3 ⟨v3, rfl, ho3, hne3, hb3⟩
       obtain ⟨A3, c3, e3⟩ := Kd.R_slice (Kd.R_of_own (h1 := fun _ => rfl) (enc := Value.bool) (xs := clause_Models.bits k n) (ok := fun _ => True) (by rw [hlb]; exact ho3) (fun _ _ => trivial))
       rw [hlb] at e3
       subst e3
       have HR3 := Aside0.mk (Kd.R_below (Kd.R_below HOr.out hbw2) hb3)
       have HR2 := Aside0.mk (Kd.R_below HOr.out hbw2)
       have hb13 : Below wr.heap.size wr w3 := hbw2.trans (hb3.mono hbw2.size)
       have hB3 : Below w.heap.size w w3 := hBw.trans (hb13.mono (Nat.le_of_lt hBlt))
       have hm3 : (Kd.slice 4 Kd.bool).M w3 w.heap.size (fun q => w2.heap.size ≤ q) (clause_Models.bits k n) [.slice A3 k c3] := ⟨_, rfl, Kd.R_lower (Kd.R_of_own (base := w2.heap.size) (by rw [hlb]; exact ho3) (fun q hq => own_base ho3 q hq)) (by have := hbw2.size; omega)⟩
       have hlen3 : (clause_Models.upto l0 k n).length ≤ n := by unfold clause_Models.upto; exact Nat.le_trans (List.length_filter_le _ _) (by simp)
       have HM3 := Aside0.mk hm3
       have HHB3 := Aside0.mk hB3
       have HB13 := Aside0.mk hb13
       have HBW2 := Aside0.mk hbw2
       clear hm3 hB3 hb13 hbw2 ho3 hne3 hb3 hb2 hca2 hcl hcon hBw
       go_wp2_with ((with_reducible refine gate_builtin (b := .append) (xs := #[.tmp 37, .tmp 40]) rfl ?_); at_builtin; refine Kd.R_append (Kd.slice 4 Kd.bool) (w0 := w) w.heap.size rfl (.tmp 37) (.tmp 40) 48 38 (.slice none 0 0) 24 rfl Try.underlying48 clause_Models.infoS rfl (by decide) (by omega) u5 (clause_Models.upto l0 k n) (clause_Models.bits k n) [.slice A3 k c3] (fun q => q ≠ w.heap.size) (fun q => w2.heap.size ≤ q) ?ehs ?ehx HM3.out ?aP ?aF HR3.out HHB3.out ?aS ?aL ?_; (case ehs => rfl); (case ehx => rfl); (case aP => exact fun q hq => ⟨by have := HBW2.out.size; omega, fun he => by have := Kd.R_lt HR2.out q he.symm; omega⟩); (case aF => exact fun q hq => by have := HB13.out.size; omega); (case aS => have := HB13.out.size; omega); (case aL => omega); intro v4 w4 ho4 hb4 hg4 hat4; have HO4 := Aside0.mk ho4; have HB4 := Aside0.mk hb4; have HG4 := Aside0.mk hg4; clear ho4 hb4 hg4 hat4)
       have hB4 : w4.heap[w.heap.size]? = some (.cells (bl.map Value.bool).toArray 75 (0, 0)) := (HG4.out.block _ (by have := HB13.out.size; omega) (fun he => HOr.out.1 _ he.symm rfl)).trans ((HB13.out.block _ hBlt).trans HL2.out)
       go_step3
       (try simp only [Exit.then, Exit.inBlock, Lab.gotos])
       refine Lab.again HIH'.out (gq - 1) ?lm1 ?lm2 ?lm3
       case lm1 => omega
       case lm2 => omega
       case lm3 =>
        (repeat apply Exists.intro)
        refine ⟨?rel, ?fr⟩
        case fr => (simp only [Act.put, List.setIfInBounds_toArray, List.set_cons_zero, List.set_cons_succ] <;> rfl)
        case rel => exact ⟨n + 1, hlast, by omega, congrArg (Value.int .i64) (Int.natCast_succ n).symm, ⟨by rw [HUP.out]; exact HO4.out⟩, HB4, ⟨by have := HG4.out.size; have := HB13.out.size; omega⟩, ⟨bl, h1, hB4⟩⟩
      ·as_aux_lemma =>
       obtain ⟨hl1, hl2⟩ := hge_ hn hlast
       clear hlt_ hge_
       go_wp2_with (go_at_call 62; with_reducible refine hcon.mono ?_; rintro e w2 ⟨rfl, hb2⟩; have hca2 : w2.cell? ⟨wr.heap.size, 0, none⟩ = some (.slice (some ⟨w.heap.size, 0, none⟩) k 12) := (hb2.cell (p := ⟨wr.heap.size, 0, none⟩) (by simp)).trans (by simp); have hbw2 : Below wr.heap.size wr w2 := below_step (below_alloc (Below.refl _ _) _) hb2)
       refine (hcl w2 hbw2).mono ?_
       rintro e w3 ⟨v3, rfl, ho3, hne3, hb3⟩
       obtain ⟨A3, c3, e3⟩ := Kd.R_slice (Kd.R_of_own (h1 := fun _ => rfl) (enc := Value.bool) (xs := clause_Models.bits k n) (ok := fun _ => True) (by rw [hlb]; exact ho3) (fun _ _ => trivial))
       rw [hlb] at e3
       subst e3
       have HR3 := Aside0.mk (Kd.R_below (Kd.R_below HOr.out hbw2) hb3)
       have HR2 := Aside0.mk (Kd.R_below HOr.out hbw2)
       have hb13 : Below wr.heap.size wr w3 := hbw2.trans (hb3.mono hbw2.size)
       have hB3 : Below w.heap.size w w3 := hBw.trans (hb13.mono (Nat.le_of_lt hBlt))
       have hm3 : (Kd.slice 4 Kd.bool).M w3 w.heap.size (fun q => w2.heap.size ≤ q) (clause_Models.bits k n) [.slice A3 k c3] := ⟨_, rfl, Kd.R_lower (Kd.R_of_own (base := w2.heap.size) (by rw [hlb]; exact ho3) (fun q hq => own_base ho3 q hq)) (by have := hbw2.size; omega)⟩
       have hlen3 : (clause_Models.upto l0 k n).length ≤ n := by unfold clause_Models.upto; exact Nat.le_trans (List.length_filter_le _ _) (by simp)
       have HM3 := Aside0.mk hm3
       have HHB3 := Aside0.mk hB3
       have HB13 := Aside0.mk hb13
       have HBW2 := Aside0.mk hbw2
       clear hm3 hB3 hb13 hbw2 ho3 hne3 hb3 hb2 hca2 hcl hcon hBw
       go_wp2_with ((with_reducible refine gate_builtin (b := .append) (xs := #[.tmp 37, .tmp 40]) rfl ?_); at_builtin; refine Kd.R_append (Kd.slice 4 Kd.bool) (w0 := w) w.heap.size rfl (.tmp 37) (.tmp 40) 48 38 (.slice none 0 0) 24 rfl Try.underlying48 clause_Models.infoS rfl (by decide) (by omega) u5 (clause_Models.upto l0 k n) (clause_Models.bits k n) [.slice A3 k c3] (fun q => q ≠ w.heap.size) (fun q => w2.heap.size ≤ q) ?ehs ?ehx HM3.out ?aP ?aF HR3.out HHB3.out ?aS ?aL ?_; (case ehs => rfl); (case ehx => rfl); (case aP => exact fun q hq => ⟨by have := HBW2.out.size; omega, fun he => by have := Kd.R_lt HR2.out q he.symm; omega⟩); (case aF => exact fun q hq => by have := HB13.out.size; omega); (case aS => have := HB13.out.size; omega); (case aL => omega); intro v4 w4 ho4 hb4 hg4 hat4; have HO4 := Aside0.mk ho4; have HB4 := Aside0.mk hb4; have HG4 := Aside0.mk hg4; clear ho4 hb4 hg4 hat4)
       have hB4 : w4.heap[w.heap.size]? = some (.cells (bl.map Value.bool).toArray 75 (0, 0)) := (HG4.out.block _ (by have := HB13.out.size; omega) (fun he => HOr.out.1 _ he.symm rfl)).trans ((HB13.out.block _ hBlt).trans HL2.out)
       (try simp only [Exit.then, Exit.inBlock, Lab.gotos])
       go_ret
       refine ⟨_, rfl, ?_, HB4.out⟩
       have e : n + 1 = N := by omega
       rw [← e, HUP.out]
       exact Kd.R_mono HO4.out (fun _ _ => trivial)
theorem clause_Models.calls (A0 : Option Addr) (c0 : Nat) (l0 : List (List Int)) (a1 : Int) (r : List (List Bool)) (w : World) (hr0 : Kd.C (Kd.slice 22 (Kd.int .i64)) w A0 l0.length l0) (hc0 : l0.length ≤ c0) (h : clause_Models.f l0 a1 = some r) :
 Calls Try.prog 31 #[.slice A0 l0.length c0, .int .i64 a1] w fun e w' => ∃ v0_ : Value, e = .returned v0_ ∧ Kd.N (Kd.slice 4 Kd.bool) 38 w' w.heap.size (fun k_ => (w.heap.size ≤ k_)) v0_ r ∧ Below w.heap.size w w' :=
 (clause_Models.callsR A0 c0 l0 a1 r w hr0 hc0 h).mono fun _ _ ⟨v, he, hR, hb⟩ => ⟨v, he, Kd.N_mono (Kd.R_N (Kd.R_bound hR)) (fun _ hk => hk.2.1), hb⟩

end Go.Proofs.Ytohgjbkiemnfnaa.X
