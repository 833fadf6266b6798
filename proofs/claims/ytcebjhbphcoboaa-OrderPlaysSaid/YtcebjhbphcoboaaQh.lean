/- The theory of ranks (order): literals that don't agree, those left out that needn't be there. Plain words, and walks by hand. -/
import Derived.Test.YtcebjhbphcoboaaQQg
import Derived.Test.YtcebjhbphcoboaaXm
import Derived.Test.YtcebjhbphcoboaaLab
namespace Go.Proofs.Ytcebjhbphcoboaa.Ato
open Go Go.RowKit Go.Proofs.Ytcebjhbphcoboaa.X Go.Proofs.Ytcebjhbphcoboaa.Hlp Go.Proofs.YtcebjhbphcoboaaW.PrintWords Go.Proofs.YtcebjhbphcoboaaW.PrintLast Go.Proofs.YtcebjhbphcoboaaW.PrintMore Go.Proofs.Ytcebjhbphcoboaa.Aid
attribute [local go_sem] max2_int min2_int max_two min_two
set_option linter.unusedVariables false
set_option linter.unusedSimpArgs false
theorem C_of_ints {w : World} {base : Nat} {v : Value} {l : List Int} (h : w.ownsRow base 3 1 v l.length (ints l)) : ∃ A c, v = .slice A l.length c ∧ l.length ≤ c ∧ Kd.C (Kd.int .i64) w A l.length l := by
  obtain ⟨p, c, rfl⟩ := Hlp.own_slice h
  have hR : Kd.R (Kd.int .i64) 3 w base (fun _ => True) (.slice p l.length c) l := ⟨fun _ _ => trivial, encs (Value.int .i64) l, ⟨by show (encs (Value.int .i64) l).length = l.length * 1; simp [encs], h.2⟩, Kd.reps_scalar l⟩
  have := Kd.R_reads' hR
  exact ⟨p, c, rfl, this.2.1, this.2.2⟩
def wout (L : List Int) (i : Nat) : List Int := L.take i ++ L.drop (i + 1)
/-- Literals, those left out that needn't be there; the last keep of them stay. -/
def explN (l : List Int) (p : Int) (keep : Nat) : Nat → List Int → Nat → List Int
  | 0, L, _ => L
  | f + 1, L, i => if i + keep < L.length then (if alw l p (wout L i) = [] then explN l p keep f (wout L i) i else explN l p keep f L (i + 1)) else L
def expl (l : List Int) (p : Int) (keep : Nat) (L : List Int) : List Int := explN l p keep (L.length + 1) L 0
theorem wout_len (L : List Int) (i : Nat) (h : i < L.length) : (wout L i).length + 1 = L.length := by
  unfold wout
  rw [List.length_append, List.length_take, List.length_drop]; omega
theorem explN_more (l : List Int) (p : Int) (keep : Nat) : ∀ f L i, L.length - i < f → explN l p keep (f + 1) L i = explN l p keep f L i
  | 0, _, _, h => absurd h (Nat.not_lt_zero _)
  | f + 1, L, i, h => by
    rw [explN]
    conv => rhs; rw [explN]
    by_cases h1 : i + keep < L.length
    · rw [if_pos h1, if_pos h1]
      have := wout_len L i (by omega)
      by_cases h2 : alw l p (wout L i) = []
      · rw [if_pos h2, if_pos h2]; exact explN_more l p keep f _ _ (by omega)
      · rw [if_neg h2, if_neg h2]; exact explN_more l p keep f _ _ (by omega)
    · rw [if_neg h1, if_neg h1]
theorem concat2 {W : World} {A B : Option Addr} {ca cb : Nat} {xs ys : List Int} (ha : Kd.C (Kd.int .i64) W A xs.length xs) (hb : Kd.C (Kd.int .i64) W B ys.length ys) (hca : xs.length ≤ ca) (hcb : ys.length ≤ cb) (t : TypeId) :
    Kd.C (Kd.slice 3 (Kd.int .i64)) (W.alloc (.cells #[.slice A xs.length ca, .slice B ys.length cb] t)) (some ⟨W.heap.size, 0, none⟩) 2 [xs, ys] := by
  refine ⟨rfl, by decide, fun _ => ⟨_, rfl, fun j p hj => ?_⟩⟩
  have hn := heap_alloc_new W (.cells #[.slice A xs.length ca, .slice B ys.length cb] t)
  match j, hj with
  | 0, hj =>
    obtain rfl : xs = p := by simpa using hj
    exact ⟨[.slice A xs.length ca], rfl, ⟨A, ca, rfl, hca, Kd.C_alloc ha _⟩, fun i u hu => by
      cases i with
      | succ i => simp at hu
      | zero =>
        obtain rfl : Value.slice A xs.length ca = u := by simpa using hu
        show (W.alloc _).cell? ((⟨W.heap.size, 0, none⟩ : Addr).add (0 * 1 + 0)) = _
        rw [show (⟨W.heap.size, 0, none⟩ : Addr).add (0 * 1 + 0) = ⟨W.heap.size, 0, none⟩ from by unfold Addr.add; split <;> simp_all]
        simp only [World.cell?, hn]; rfl⟩
  | 1, hj =>
    obtain rfl : ys = p := by simpa using hj
    exact ⟨[.slice B ys.length cb], rfl, ⟨B, cb, rfl, hcb, Kd.C_alloc hb _⟩, fun i u hu => by
      cases i with
      | succ i => simp at hu
      | zero =>
        obtain rfl : Value.slice B ys.length cb = u := by simpa using hu
        show (W.alloc _).cell? ((⟨W.heap.size, 0, none⟩ : Addr).add (1 * 1 + 0)) = _
        rw [show (⟨W.heap.size, 0, none⟩ : Addr).add (1 * 1 + 0) = ⟨W.heap.size, 1, none⟩ from by unfold Addr.add; split <;> simp_all]
        simp only [World.cell?, hn]; rfl⟩
  | j + 2, hj => simp at hj
theorem concat_ev (xs ys : List Int) (hx : xs.length ≤ 100000) (hy : ys.length ≤ 100000) : ∃ k, slices_Concat_int_int.f k [xs, ys] = some (xs ++ ys) := by
  have h : Ev (fun k => slices_Concat_int_int.f k [xs, ys]) (xs ++ ys) := by
    unfold slices_Concat_int_int.f
    have w1 : wrap64 (0 + (xs.length : Int)) = xs.length := by rw [wrap64_in (by omega) (by omega)]; omega
    have w2 : wrap64 ((xs.length : Int) + (ys.length : Int)) = xs.length + ys.length := by rw [wrap64_in (by omega) (by omega)]
    have e0 : rd_L1 [xs, ys] 0 = xs := rfl
    have e1 : rd_L1 [xs, ys] 1 = ys := rfl
    have n2 : (([xs, ys] : List (List Int)).length : Int) = 2 := rfl
    have a1 : wrap64 (0 + 1) = 1 := by rw [wrap64_in (by omega) (by omega)]; rfl
    have a2 : wrap64 (1 + 1) = 2 := by rw [wrap64_in (by omega) (by omega)]; rfl
    rw [n2]
    refine Ev.step (fun k => by rw [slices_Concat_int_int.l0]) (ev_pos (by omega) (ev_pos (by omega) (ev_pos (by rw [n2]; omega) (ev_neg (by rw [e0, w1]; omega) ?_))))
    rw [e0, w1, a1]
    refine Ev.step (fun k => by rw [slices_Concat_int_int.l0]) (ev_pos (by omega) (ev_pos (by omega) (ev_pos (by rw [n2]; omega) (ev_neg (by rw [e1, w2]; omega) ?_))))
    rw [e1, w2, a2]
    refine Ev.step (fun k => by rw [slices_Concat_int_int.l0]) (ev_neg (by omega) (ev_bind (a := ([] : List Int)) (ev_done ?_) ?_))
    · unfold slices_Grow_int_int.f
      rw [if_pos ⟨rfl, by omega, by omega⟩]
    rw [n2]
    refine Ev.step (fun k => by rw [slices_Concat_int_int.l1]) (ev_pos (by omega) (ev_pos (by omega) (ev_pos (by rw [n2]; omega) (ev_pos (by rw [e0]; simp; omega) ?_))))
    rw [e0, a1]
    refine Ev.step (fun k => by rw [slices_Concat_int_int.l1]) (ev_pos (by omega) (ev_pos (by omega) (ev_pos (by rw [n2]; omega) (ev_pos (by rw [e1]; simp; omega) ?_))))
    rw [e1, a2]
    exact Ev.step (fun k => by rw [slices_Concat_int_int.l1]) (ev_neg (by omega) (ev_now (by simp)))
  exact h.rounds
theorem wout_mem {L : List Int} {i : Nat} {x : Int} (h : x ∈ wout L i) : x ∈ L := by
  unfold wout at h
  rw [List.mem_append] at h
  rcases h with h | h
  · exact List.mem_of_mem_take h
  · exact List.mem_of_mem_drop h
set_option maxHeartbeats 4000000 in
set_option maxRecDepth 100000 in
theorem expl_calls {w : World} {base g : Nat} {l : List Int} (h : AT w base g l) (p : Int) (keep : Nat) (A : Option Addr) (c : Nat) (L : List Int) (hr : Kd.C (Kd.int .i64) w A L.length L) (hc : L.length ≤ c) (hL : L.length ≤ 1000) (hkp : keep ≤ 1000) (hx : ∀ x ∈ L, -9223372036854775808 ≤ x ∧ x ≤ 9223372036854775807) (hl4 : l.length ≤ 4096) (hn : ∀ n ∈ l, 0 ≤ n ∧ n ≤ 16777216) (ht : tot l ≤ 16777216) :
    Calls Try.prog 81 #[.pointer (some ⟨g, 0, none⟩), .int .i64 p, .slice A L.length c, .int .i64 keep] w fun e w' => ∃ v, e = .returned v ∧ w'.ownsRow w.heap.size 3 1 v (expl l p keep L).length (ints (expl l p keep L)) ∧ Below w.heap.size w w' := by
  have hclone := slices_Clone_int_int.calls A c L L w hr hc (by unfold slices_Clone_int_int.f; rw [if_pos (by omega)])
  go_enter Try.func81, Try.ntmps81
  go_wp2
  refine Lab.wp_scope_lab (Lab.scopeOf Try.f81) ?sc (L.length + 1) ?_
  case sc => kernel_rfl
  go_wp2_with (first
    | (go_at_call 74; with_reducible refine hclone.mono ?_; rintro e w1 ⟨v1, rfl, hR1, hB1⟩; have hown1 := own_of_R hR1; obtain ⟨p1, c1, rfl⟩ := Hlp.own_slice hown1))
  go_step3
  go_step
  (try go_step)
  refine Lab.wp_at_label (l := 0) (fun a0_ kq a_ w_ => ∃ u9 u10 u11 u14 u15 u16 u17 u18 u19 u20 u21 u22 u23 u24 u25 u26 u27 u28 u29 u30 u31 u32 u33 u34 u35 u36 u37 : Value, (∃ (M : List Int) (i : Nat), kq = M.length - i ∧ u10 = .int .i64 i ∧ i ≤ M.length ∧ M.length ≤ L.length ∧ (∀ x ∈ M, x ∈ L) ∧ explN l p keep (M.length - i + 1) M i = expl l p keep L ∧ w_.ownsRow w.heap.size 3 1 u9 M.length (ints M) ∧ Below w.heap.size w w_) ∧ a_ = (((((((((((((((((((((((((((a0_.put (some 9) u9).put (some 10) u10).put (some 11) u11).put (some 14) u14).put (some 15) u15).put (some 16) u16).put (some 17) u17).put (some 18) u18).put (some 19) u19).put (some 20) u20).put (some 21) u21).put (some 22) u22).put (some 23) u23).put (some 24) u24).put (some 25) u25).put (some 26) u26).put (some 27) u27).put (some 28) u28).put (some 29) u29).put (some 30) u30).put (some 31) u31).put (some 32) u32).put (some 33) u33).put (some 34) u34).put (some 35) u35).put (some 36) u36).put (some 37) u37)) L.length ?fl (by omega) ?atStart ?round
  case fl => kernel_rfl
  case atStart =>
    (repeat apply Exists.intro)
    refine ⟨?rel, ?fr⟩
    case fr => (simp only [Act.put, List.setIfInBounds_toArray, List.set_cons_zero, List.set_cons_succ] <;> rfl)
    case rel => exact ⟨L, 0, rfl, rfl, Nat.zero_le _, Nat.le_refl _, fun _ h => h, rfl, hown1, hB1⟩
  case round =>
    intro gk a_ wr hle_ hinv HIH
    obtain ⟨u9, u10, u11, u14, u15, u16, u17, u18, u19, u20, u21, u22, u23, u24, u25, u26, u27, u28, u29, u30, u31, u32, u33, u34, u35, u36, u37, ⟨M, i, hgk, rfl, hi, hML, hmem, hex, hown, hB⟩, rfl⟩ := hinv
    subst hgk
    simp only [Act.put, List.setIfInBounds_toArray, List.set_cons_zero, List.set_cons_succ]
    obtain ⟨p9, c9, e9, hc9, hC9⟩ := C_of_ints hown
    subst e9
    rw [explN] at hex
    by_cases hik : i + keep < M.length
    · rw [if_pos hik] at hex
      have HX := Aside0.mk hex
      clear hex
      have hikI : (i : Int) < (M.length : Int) - keep := by omega
      have hi1 : (i : Int) + 1 ≤ (M.length : Int) := by omega
      have hwl := wout_len M i (by omega)
      obtain ⟨i011, hi011, _, hsz11, _⟩ := info_parts info3'
      obtain ⟨hcut11, hA11, hC11⟩ := print_take_of (P := Try.prog) (Value.int .i64) 0 46 3 .i64 Try.underlying46 hi011 hsz11 p9 c9 M (i : Int) (by omega) (by omega) hc9
      obtain ⟨A12, hcut12, hA12, hC12⟩ := print_drop_of (P := Try.prog) (Value.int .i64) 0 46 3 .i64 Try.underlying46 hi011 hsz11 p9 c9 M ((i : Int) + 1) (by omega) hi1 hc9
      have hT := Kd.C_of_reads (h1 := fun _ => rfl) (hA11 _ (Kd.reads_of_C hC9))
      have hD := Kd.C_of_reads (h1 := fun _ => rfl) (hA12 _ (Kd.reads_of_C hC9))
      rw [show ((i : Int) + 1).toNat = i + 1 by omega] at hcut12 hA12 hC12 hD
      rw [Int.toNat_natCast] at hcut11 hA11 hC11 hT
      obtain ⟨kc, hkc⟩ := concat_ev (M.take i) (M.drop (i + 1)) (by rw [List.length_take]; omega) (by rw [List.length_drop]; omega)
      have hcon : Calls Try.prog 101 #[.slice (some ⟨wr.heap.size, 0, none⟩) 2 2] (wr.alloc (.cells #[.slice p9 (M.take i).length c9, .slice A12 (M.drop (i + 1)).length (c9 - (i + 1))] 46)).drew fun e w' => ∃ v, e = .returned v ∧ w'.ownsRow (wr.heap.size + 1) 3 1 v (wout M i).length (ints (wout M i)) ∧ Below wr.heap.size wr w' := by
        refine (slices_Concat_int_int.calls kc (some ⟨wr.heap.size, 0, none⟩) 2 [M.take i, M.drop (i + 1)] _ _ (Kd.C_drew (concat2 hT hD hC11 hC12 46)) (Nat.le_refl 2) hkc).mono fun e w' ⟨v, he, hR, hBw⟩ => ⟨v, he, ?_, ?_⟩
        · have := own_of_R hR
          rw [show ((wr.alloc (.cells #[.slice p9 (M.take i).length c9, .slice A12 (M.drop (i + 1)).length (c9 - (i + 1))] 46)).drew).heap.size = wr.heap.size + 1 by simp] at this
          exact this
        · exact (pw_below_drewN ((Below.refl wr.heap.size wr).alloc (Nat.le_refl _) _) 1).trans (hBw.mono (by simp))
      rw [show (M.take i).length = i by rw [List.length_take]; omega, List.length_drop] at hcon
      clear hA11 hA12 hkc hT hD
      go_wp2_with fail
      have hiw : IntKind.i64.wrap ((i : Int) + 1) = (i : Int) + 1 := by rw [IntKind.wrap_i64]; omega
      go_region_with (first
        | (go_at_call 101; with_reducible refine hcon.mono ?_; rintro e w2 ⟨v2, rfl, hown2, hB2⟩))
      all_goals
        have hBw2 := hB.trans (hB2.mono hB.size)
        have hown2' := Hlp.own_base hown2 (show w.heap.size ≤ wr.heap.size + 1 by have := hB.size; omega)
        obtain ⟨A2, c2, e2, hc2, hC2⟩ := C_of_ints hown2
        subst e2
        have hall := allowed_calls (h.below hBw2) p A2 c2 (wout M i) hC2 hc2 (fun x hm => hx x (hmem x (wout_mem hm))) hl4 hn ht
        have hex := HX.out
        obtain ⟨f, hf⟩ : ∃ f, M.length - i = f + 1 := ⟨M.length - i - 1, by omega⟩
        by_cases hae : alw l p (wout M i) = []
        · rw [if_pos hae] at hex
          have HY := Aside0.mk hex
          have na : (((alw l p (wout M i)).length : Int) == 0) = true := by rw [hae]; rfl
          clear hex hae HX
          generalize alw l p (wout M i) = R at *
          go_wp2_with (first
            | (go_at_call 79; with_reducible refine hall.mono ?_; rintro e w3 ⟨v3, rfl, hown3, hB3⟩; obtain ⟨p3, c3, rfl⟩ := Hlp.own_slice hown3))
          go_step3
          simp only [Exit.then, Exit.inBlock, Lab.gotos]
          refine Lab.again HIH ((wout M i).length - i) (by omega) (by omega) ?_
          (repeat apply Exists.intro)
          refine ⟨?rel, ?fr⟩
          case fr => (simp only [Act.put, List.setIfInBounds_toArray, List.set_cons_zero, List.set_cons_succ] <;> rfl)
          case rel => exact ⟨wout M i, i, rfl, rfl, by omega, by omega, fun x hm => hmem x (wout_mem hm), by rw [← HY.out, show (wout M i).length - i + 1 = M.length - i by omega], Hlp.own_below hown2' hB3, hBw2.trans (hB3.mono hBw2.size)⟩
        · rw [if_neg hae] at hex
          have HY := Aside0.mk hex
          have na : (((alw l p (wout M i)).length : Int) == 0) = false := beq_eq_false_iff_ne.mpr fun e => hae (List.length_eq_zero_iff.mp (by omega))
          clear hex hae HX
          generalize alw l p (wout M i) = R at *
          go_wp2_with (first
            | (go_at_call 79; with_reducible refine hall.mono ?_; rintro e w3 ⟨v3, rfl, hown3, hB3⟩; obtain ⟨p3, c3, rfl⟩ := Hlp.own_slice hown3))
          go_step3
          simp only [Exit.then, Exit.inBlock, Lab.gotos]
          refine Lab.again HIH (M.length - (i + 1)) (by omega) (by omega) ?_
          (repeat apply Exists.intro)
          refine ⟨?rel, ?fr⟩
          case fr => (simp only [Act.put, List.setIfInBounds_toArray, List.set_cons_zero, List.set_cons_succ] <;> rfl)
          case rel => exact ⟨M, i + 1, rfl, rfl, by omega, hML, hmem, by rw [← HY.out, show M.length - (i + 1) + 1 = M.length - i by omega], Hlp.own_below hown (hB2.trans (hB3.mono hB2.size)), hBw2.trans (hB3.mono hBw2.size)⟩
    · rw [if_neg hik] at hex
      have HX := Aside0.mk hex
      clear hex
      have hikI : ¬ (i : Int) < (M.length : Int) - keep := by omega
      go_wp2
      (try simp only [Exit.then, Exit.inBlock, Lab.gotos])
      go_ret
      rw [← HX.out]
      exact ⟨_, rfl, hown, hB⟩
end Go.Proofs.Ytcebjhbphcoboaa.Ato
