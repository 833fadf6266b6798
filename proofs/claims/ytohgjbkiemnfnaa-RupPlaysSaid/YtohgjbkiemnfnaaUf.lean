/- The store of clauses: a row of rows behind a pointer: Add, find, Drop, Has, Len. Walks by hand. -/
import Derived.Test.YtohgjbkiemnfnaaUe
import Derived.Test.YtohgjbkiemnfnaaOwn
import Derived.Test.YtohgjbkiemnfnaaLayIdx
import Derived.Test.YtohgjbkiemnfnaaLayDel
import Derived.Test.YtohgjbkiemnfnaaRn95
import Derived.Shelf.SlicesE.Delete
namespace Go.Proofs.Ytohgjbkiemnfnaa.Rup
open Go Go.RowKit Go.Shelf Go.Proofs.Ytohgjbkiemnfnaa.R Go.Proofs.Ytohgjbkiemnfnaa.Hlp Go.Proofs.Ytohgjbkiemnfnaa.Aid Go.Proofs.Ytohgjbkiemnfnaa.Clause12 Go.Proofs.Ytohgjbkiemnfnaa.Clean12 Go.Proofs.YtohgjbkiemnfnaaW.PrintWords Go.Proofs.YtohgjbkiemnfnaaW.PrintLast Go.Proofs.YtohgjbkiemnfnaaW.PrintMore
attribute [local go_sem] max2_int min2_int max_two min_two
set_option linter.unusedVariables false
set_option linter.unusedSimpArgs false
abbrev Hd := Option Addr × Nat × Nat
def hd (h : Hd) : Value := .slice h.1 h.2.1 h.2.2
theorem hd_one (h : Hd) : (hd h).oneCell' = true := rfl
abbrev HK : Kd Hd := Kd.scalar hd hd_one
theorem infoH : (Try.prog.info? 22).map (fun i => (i.zero, i.size, i.bytes)) = some (some (.slice none 0 0), 1, 24) := by kernel_rfl
/-- A row of the call's own, whose elements are rows of the call's own. -/
def RR (W : World) (base : Nat) (v : Value) (X : List (List Int)) : Prop :=
  ∃ P : List (Hd × List Int), X = P.map (·.2) ∧ HK.R 22 W base (fun _ => True) v (P.map (·.1)) ∧ ∀ p ∈ P, W.ownsRow base 3 1 (hd p.1) p.2.length (ints p.2)
theorem hk_own {W : World} {base : Nat} {v : Value} {hs : List Hd} (h : HK.R 22 W base (fun _ => True) v hs) : W.ownsRow base 22 1 v hs.length (hs.map hd) := by
  obtain ⟨h0, inner, ho, hr⟩ := h
  obtain rfl := Kd.reps_encs hr
  exact ho
theorem own_hk {W : World} {base : Nat} {v : Value} {hs : List Hd} (h : W.ownsRow base 22 1 v hs.length (hs.map hd)) : HK.R 22 W base (fun _ => True) v hs :=
  ⟨fun _ _ => trivial, encs hd hs, ⟨by show (encs hd hs).length = hs.length * 1; simp [encs], h.2⟩, Kd.reps_scalar hs⟩
theorem RR.nil (W : World) (base : Nat) : RR W base (.slice none 0 0) [] := ⟨[], rfl, Kd.R_nil _ _ _ _ _, fun p hp => by cases hp⟩
theorem RR.kept {W W' : World} {base : Nat} {v : Value} {X : List (List Int)} {row : Option Nat} (h : RR W base v X) (hg : W.grownBy W' row) (hv : v.ownBlock = none ∨ v.ownBlock ≠ row) (h3 : ∀ k, row = some k → ∀ cur, W.heap[k]? ≠ some (.cells cur 3 (0, 0))) : RR W' base v X := by
  obtain ⟨P, e, hR, hp⟩ := h
  refine ⟨P, e, own_hk ((hk_own hR).kept hg hv), fun p hpm => (hp p hpm).kept hg ?_⟩
  cases hb : (hd p.1).ownBlock with
  | none => exact .inl rfl
  | some k =>
    right
    intro e2
    obtain ⟨cur, hc⟩ := own_type (hp p hpm) hb
    exact h3 k e2.symm cur hc
theorem RR.below {W W' : World} {base : Nat} {v : Value} {X : List (List Int)} (h : RR W base v X) (hb : Below W.heap.size W W') : RR W' base v X :=
  h.kept (grown_of_below hb none) (by cases v.ownBlock <;> simp) (fun k e => by cases e)
theorem RR.own {W : World} {base : Nat} {v : Value} {X : List (List Int)} (h : RR W base v X) : ∃ us, us.length = X.length ∧ W.ownsRow base 22 1 v X.length us ∧ (∀ u ∈ us, u.oneCell' = true) := by
  obtain ⟨P, rfl, hR, hp⟩ := h
  have := hk_own hR
  rw [List.length_map] at this ⊢
  refine ⟨(P.map (·.1)).map hd, by simp, this, fun u hu => ?_⟩
  obtain ⟨x, _, rfl⟩ := List.mem_map.mp hu
  rfl
theorem own_at {W W' : World} {base e sz n : Nat} {v : Value} {xs : List Value} (h : W.ownsRow base e sz v n xs) (hk : ∀ k, v.ownBlock = some k → W'.heap[k]? = W.heap[k]?) : W'.ownsRow base e sz v n xs := by
  refine ⟨h.1, ?_⟩
  rcases h.2 with h | ⟨k, cap, cur, rfl, h2, h3, h4⟩
  · exact .inl h
  · exact .inr ⟨k, cap, cur, rfl, h2, (hk k rfl).trans h3, h4⟩
theorem RR.at_ {W W' : World} {base : Nat} {v : Value} {X : List (List Int)} (h : RR W base v X) (hk : ∀ k, (v.ownBlock = some k ∨ ∃ cur, W.heap[k]? = some (.cells cur 3 (0, 0))) → W'.heap[k]? = W.heap[k]?) : RR W' base v X := by
  obtain ⟨P, e, hR, hp⟩ := h
  exact ⟨P, e, own_hk (own_at (hk_own hR) fun k hb => hk k (.inl hb)), fun p hpm => own_at (hp p hpm) fun k hb => hk k (.inr (own_type (hp p hpm) hb))⟩
theorem hd_ne {W : World} {base base' : Nat} {v u : Value} {n m : Nat} {xs ys : List Value} (h : W.ownsRow base 22 1 v n xs) (h1 : W.ownsRow base' 3 1 u m ys) : u.ownBlock = none ∨ u.ownBlock ≠ v.ownBlock := by
  cases hb : u.ownBlock with
  | none => exact .inl rfl
  | some k =>
    right
    intro e2
    obtain ⟨cur, hc⟩ := own_type h1 hb
    obtain ⟨cur2, hc2⟩ := own_type h e2.symm
    rw [hc] at hc2
    cases hc2
theorem RR.put {W W1 : World} {base : Nat} {v v1 : Value} {P : List (Hd × List Int)} {x : List Int} {h : Hd} (hR : HK.R 22 W base (fun _ => True) v (P.map (·.1))) (hp : ∀ p ∈ P, W.ownsRow base 3 1 (hd p.1) p.2.length (ints p.2)) (hx : W.ownsRow base 3 1 (hd h) x.length (ints x)) (hg : W.grownBy W1 v.ownBlock)
    (ho : W1.ownsRow base 22 1 v1 (P.length + 1) ((P.map (·.1)).map hd ++ [hd h])) : RR W1 base v1 (P.map (·.2) ++ [x]) := by
  refine ⟨P ++ [(h, x)], by simp, own_hk ?_, fun p hpm => ?_⟩
  · simpa using ho
  · rcases List.mem_append.mp hpm with hpm | hpm
    · exact (hp p hpm).kept hg (hd_ne (hk_own hR) (hp p hpm))
    · rw [List.mem_singleton] at hpm
      subst hpm
      exact hx.kept hg (hd_ne (hk_own hR) hx)
theorem RR.reads {W : World} {base : Nat} {v : Value} {X : List (List Int)} (h : RR W base v X) : ∃ A c, v = .slice A X.length c ∧ X.length ≤ c ∧ Kd.C (Kd.slice 3 (Kd.int .i64)) W A X.length X := by
  obtain ⟨P, e, hR, hp⟩ := h
  obtain ⟨A, c, rfl⟩ := Kd.R_slice hR
  obtain ⟨h1, h2, h3⟩ := Kd.R_reads' hR
  have hl : X.length = (P.map (·.1)).length := by rw [e]; simp
  rw [hl]
  refine ⟨A, c, rfl, h2, ⟨hl, h3.2.1, fun hn => ?_⟩⟩
  obtain ⟨ad, ha, hc⟩ := h3.2.2 hn
  refine ⟨ad, ha, fun j p hj => ?_⟩
  have hjX : j < X.length := (List.getElem?_eq_some_iff.mp hj).1
  have hjP : j < P.length := by rw [e] at hjX; simpa using hjX
  obtain ⟨cs, hcs, hk, hcell⟩ := hc j (P[j].1) (by simp [hjP])
  have hpj : P[j].2 = p := by
    rw [e] at hj
    simpa [hjP] using hj
  have hown := hp P[j] (List.getElem_mem hjP)
  rw [hpj] at hown
  obtain ⟨A1, c1, e1, hl1, hC1⟩ := C_of_ints hown
  refine ⟨cs, hcs, ?_, hcell⟩
  have hk' : cs = [hd P[j].1] := hk
  rw [hk', e1]
  exact ⟨A1, c1, rfl, hl1, hC1⟩
/-- A store. -/
def ST (W : World) (base g : Nat) (v : Value) (X : List (List Int)) : Prop := W.heap[g]? = some (.cells #[v] 86 (0, 0)) ∧ base ≤ g ∧ RR W base v X
theorem ST.below {W W' : World} {base g : Nat} {v : Value} {X : List (List Int)} (h : ST W base g v X) (hb : Below W.heap.size W W') : ST W' base g v X := by
  obtain ⟨h1, h2, h3⟩ := h
  exact ⟨blk_below h1 hb, h2, h3.below hb⟩
theorem ST.sr {W : World} {base g : Nat} {v : Value} {X : List (List Int)} (h : ST W base g v X) : SR W g X := by
  obtain ⟨h1, h2, h3⟩ := h
  obtain ⟨A, c, rfl, hc, hC⟩ := h3.reads
  exact ⟨A, c, cell_far h1 0 _ rfl, hc, hC⟩
set_option maxRecDepth 100000 in
theorem len_calls {W : World} {g : Nat} {X : List (List Int)} (h : SR W g X) : Calls Try.prog 48 #[.pointer (some ⟨g, 0, none⟩)] W fun e w' => e = .returned (.int .i64 X.length) ∧ w' = W := by
  obtain ⟨A, c, hcell, hc, _⟩ := h
  go_enter Try.func48, Try.ntmps48
  go_wp2
  go_ret
  exact ⟨rfl, rfl⟩
/-! Where a clause stands. -/
theorem equal_l0 (d C : List Int) (hd : d.length ≤ 1000000000) (he : d.length = C.length) : ∀ m n : Nat, d.length - n = m → n ≤ d.length → Ev (fun k => slices_Equal_int_int.l0 k d C (d.length : Int) (n : Int)) (decide (d.drop n = C.drop n)) := by
  intro m
  induction m with
  | zero =>
    intro n hm hn
    refine Ev.step (fun k => by rw [slices_Equal_int_int.l0]) (ev_neg (by omega) (ev_now ?_))
    rw [List.drop_eq_nil_of_le (by omega), List.drop_eq_nil_of_le (by omega)]; rfl
  | succ m ih =>
    intro n hm hn
    refine Ev.step (fun k => by rw [slices_Equal_int_int.l0]) (ev_pos (by omega) (ev_pos (by omega) (ev_pos (by omega) (ev_pos (by omega) ?_))))
    rw [same_drop d C n (by omega) (by omega)]
    by_cases e : rd d (n : Int) = rd C n
    · rw [if_pos e, wrap64_in (by omega) (by omega)]
      exact ev_pos e (ih (n + 1) (by omega) (by omega))
    · rw [if_neg e]
      exact ev_neg e (Ev.now _)
theorem equal_ev (d C : List Int) (hd : d.length ≤ 1000000000) : Ev (fun k => slices_Equal_int_int.f k d C) (decide (d = C)) := by
  unfold slices_Equal_int_int.f
  by_cases e : d.length = C.length
  · exact ev_pos (by omega) (equal_l0 d C hd e _ 0 rfl (by omega))
  · refine ev_neg (by omega) (ev_now ?_)
    symm
    exact decide_eq_false fun h => e (congrArg _ h)
theorem clo_calls {W : World} {B : Nat} {A1 : Option Addr} {c1 : Nat} {c : List Int} (hb : W.cell? ⟨B, 0, none⟩ = some (.slice A1 c.length c1)) (hC : Kd.C (Kd.int .i64) W A1 c.length c) (hc1 : c.length ≤ c1) (hcl : c.length ≤ 1000000000) {Ax : Option Addr} {cx : Nat} {x : List Int} (hx : Kd.C (Kd.int .i64) W Ax x.length x) (hcx : x.length ≤ cx) :
    Calls Try.prog 94 (#[.slice Ax x.length cx] ++ #[.pointer (some ⟨B, 0, none⟩)]) W fun e w' => e = .returned (.bool (decide (x = c))) ∧ Below W.heap.size W w' := by
  obtain ⟨k, hk⟩ := (equal_ev c x hcl).rounds
  have he : decide (c = x) = decide (x = c) := by rw [decide_eq_decide]; exact ⟨Eq.symm, Eq.symm⟩
  rw [he] at hk
  have hq := slices_Equal_int_int.calls k A1 c1 c Ax cx x _ W hC hc1 hx hcx hk
  generalize decide (x = c) = q at hq ⊢
  show Calls Try.prog 94 #[.slice Ax x.length cx, .pointer (some ⟨B, 0, none⟩)] W _
  clear hC hx
  go_enter Try.func94, Try.ntmps94
  go_wp2_with (go_at_call 95; with_reducible refine hq.mono ?_; rintro e w1 ⟨rfl, hD⟩)
  go_ret
  exact ⟨rfl, hD.below⟩
theorem box_reads {W W1 : World} {B : Nat} {v : Value} {c : List Int} {A1 : Option Addr} {c1 base : Nat} {cs : Array Value} (h : Kd.R (Kd.int .i64) 3 W1 base (fun _ => True) (.slice A1 c.length c1) c) (hx : W1.heap[B]? = some (.cells cs 22 (0, 0))) (hs : W.heap.size ≤ W1.heap.size) : Kd.C (Kd.int .i64) (W1.setCell ⟨B, 0, none⟩ v) A1 c.length c := by
  have ho := (own_of_R h).kept (grown_set W1 B 0 v) (.inr (Hlp.own_ne (own_of_R h) hx (by simp)).symm)
  obtain ⟨A, c', e, _, hC⟩ := C_of_ints ho
  cases e
  exact hC
theorem idx_calls {W : World} {B : Nat} {A1 : Option Addr} {c1 : Nat} {c : List Int} (hb : W.cell? ⟨B, 0, none⟩ = some (.slice A1 c.length c1)) (hC : Kd.C (Kd.int .i64) W A1 c.length c) (hc1 : c.length ≤ c1) (hcl : c.length ≤ 1000000000) {A0 : Option Addr} {X : List (List Int)} (c0 : Nat) (hX : Kd.C (Kd.slice 3 (Kd.int .i64)) W A0 X.length X) :
    Calls Try.prog 88 #[.slice A0 X.length c0, .func (.func 94) #[] #[.pointer (some ⟨B, 0, none⟩)]] W fun e w' => e = .returned (.int .i64 (Fun.idxP (fun d => decide (d = c)) X)) ∧ Below W.heap.size W w' := by
  have eg : ∀ args w, (callFunc 94 args).run Try.prog w = .ok (.enter 94 args) w := enters_of Try.func94 (by kernel_rfl) rfl
  refine Fun.index_func Try.index_ints (Kd.slice 3 (Kd.int .i64)) rfl (fun d => decide (d = c)) 94 #[.pointer (some ⟨B, 0, none⟩)] eg A0 c0 X W hX fun x hx u hk W' hB => ?_
  obtain ⟨Ax, cx, e, hl, hCx⟩ := hk
  cases e
  exact clo_calls (cell_below hb hB) (Kd.C_below hC hB) hc1 hcl (Kd.C_below hCx hB) hl
set_option maxHeartbeats 1000000 in
set_option maxRecDepth 100000 in
theorem find_calls {W : World} {g : Nat} {X : List (List Int)} (hS : SR W g X) {A : Option Addr} {cc : Nat} {lits : List Int} (hr : Kd.C (Kd.int .i64) W A lits.length lits) (hcc : lits.length ≤ cc) (hl : lits.length ≤ 1000000) :
    Calls Try.prog 82 #[.pointer (some ⟨g, 0, none⟩), .slice A lits.length cc] W fun e w' => e = .returned (.int .i64 (findP X lits)) ∧ Below W.heap.size W w' := by
  have hBx : Below W.heap.size W (W.alloc (.cells #[.slice A lits.length cc] 22)) := (Below.refl _ _).alloc (Nat.le_refl _) _
  have hx := blk_new W (.cells #[.slice A lits.length cc] 22)
  obtain ⟨k, hk⟩ := (rupClean_ev lits (by omega)).rounds
  have hcl := rup_clean.calls k A cc lits (cl2 lits).1 (cl2 lits).2 (W.alloc (.cells #[.slice A lits.length cc] 22)) (Kd.C_below hr hBx) hcc hk
  generalize hWb : W.alloc (.cells #[.slice A lits.length cc] 22) = Wb at hBx hx hcl
  have HWb := Aside0.mk hWb
  clear hWb
  have z0 := cell_far hx 0 _ rfl
  have zf := blk_frozen hx 0
  by_cases hgo : (cl2 lits).2 = true
  case neg =>
    have hF : findP X lits = -1 := by unfold findP; rw [if_neg hgo]
    rw [hF]
    rw [Bool.eq_false_iff.mpr hgo] at hcl
    go_enter Try.func82, Try.ntmps82
    go_wp2_with fail
    rw [HWb.out]
    go_wp2_with (go_at_call 81; with_reducible refine hcl.mono ?_; rintro e w1 ⟨v1, rfl, hR1, hB1⟩; obtain ⟨A1, c1, rfl⟩ := Kd.R_slice hR1; have hx1 := blk_below hx hB1; have z1f := blk_frozen hx1 0; have z1 := cell_far hx1 0 _ rfl)
    go_ret
    exact ⟨rfl, (hBx.trans (hB1.mono hBx.size)).setCell (Nat.le_refl _) _⟩
  case pos =>
    have hlc := (cl2_ok hgo).2.2.2.2.1
    have hF : findP X lits = Fun.idxP (fun d => decide (d = (cl2 lits).1)) X := by unfold findP; rw [if_pos hgo]
    rw [hF]
    rw [hgo] at hcl
    generalize (cl2 lits).1 = c at *
    obtain ⟨A0, c0, hcell, hc0, hRX⟩ := hS
    have hgl := World.block_lt_of_cell? W _ hcell
    have hgne : ¬ g = W.heap.size := by simp at hgl; omega
    clear hF hk
    go_enter Try.func82, Try.ntmps82
    go_wp2_with fail
    rw [HWb.out]
    go_wp2_with (first
      | (go_at_call 81; with_reducible refine hcl.mono ?_; rintro e w1 ⟨v1, rfl, hR1, hB1⟩; obtain ⟨A1, c1, rfl⟩ := Kd.R_slice hR1; have hx1 := blk_below hx hB1; have z1f := blk_frozen hx1 0; have z1 := cell_far hx1 0 _ rfl; have hBw1 := hBx.trans (hB1.mono hBx.size); have hcell1 := cell_below hcell hBw1; have hBs := Below.setCell hBw1 (p := ⟨W.heap.size, 0, none⟩) (Nat.le_refl _) (.slice A1 c.length c1); have hixc := idx_calls (cell_far (blk_set hx1 0 (.slice A1 c.length c1)) 0 _ rfl) (box_reads hR1 hx1 hB1.size) (Kd.R_reads' hR1).2.1 (by omega) c0 (Kd.C_below hRX hBs))
      | (go_at_call 88; with_reducible refine hixc.mono ?_; rintro e w2 ⟨rfl, hB2⟩))
    go_ret
    exact ⟨rfl, hBs.trans (hB2.mono hBs.size)⟩
set_option maxRecDepth 100000 in
theorem has_calls {W : World} {g : Nat} {X : List (List Int)} (hS : SR W g X) {A : Option Addr} {cc : Nat} {lits : List Int} (hr : Kd.C (Kd.int .i64) W A lits.length lits) (hcc : lits.length ≤ cc) (hl : lits.length ≤ 1000000) :
    Calls Try.prog 47 #[.pointer (some ⟨g, 0, none⟩), .slice A lits.length cc] W fun e w' => e = .returned (.bool (decide (findP X lits ≥ 0))) ∧ Below W.heap.size W w' := by
  have hf := find_calls hS hr hcc hl
  generalize findP X lits = q at hf ⊢
  go_enter Try.func47, Try.ntmps47
  go_wp2_with (go_at_call 82; with_reducible refine hf.mono ?_; rintro e w1 ⟨rfl, hB1⟩)
  go_ret
  exact ⟨by simp, hB1⟩
/-- What else than a store's two blocks stays. -/
def StS (g : Nat) (v : Value) (k : Nat) : Prop := k = g ∨ v.ownBlock = some k
set_option maxHeartbeats 1000000 in
set_option maxRecDepth 100000 in
theorem add_calls {W w0 : World} {base g : Nat} {v : Value} {X : List (List Int)} (hS : ST W base g v X) (hXl : X.length ≤ 1000000) (hB0 : Below base w0 W) (hbw : base ≤ W.heap.size) {A : Option Addr} {cc : Nat} {lits : List Int} (hr : Kd.C (Kd.int .i64) W A lits.length lits) (hcc : lits.length ≤ cc) (hl : lits.length ≤ 1000000) :
    Calls Try.prog 46 #[.pointer (some ⟨g, 0, none⟩), .slice A lits.length cc] W fun e w' => ∃ v', e = .returned (.bool (cl2 lits).2) ∧ ST w' base g v' (if (cl2 lits).2 = true then X ++ [(cl2 lits).1] else X) ∧ Below base w0 w' ∧ Kept W w' (StS g v) ∧ (v'.ownBlock = v.ownBlock ∨ ∃ k, v'.ownBlock = some k ∧ W.heap.size ≤ k) := by
  obtain ⟨i0, hi, hz0, hz1, hz2⟩ := info_parts infoH
  obtain ⟨k, hk⟩ := (rupClean_ev lits (by omega)).rounds
  have hcl := rup_clean.calls k A cc lits (cl2 lits).1 (cl2 lits).2 W hr hcc hk
  by_cases hgo : (cl2 lits).2 = true
  case neg =>
    rw [if_neg hgo]
    rw [Bool.eq_false_iff.mpr hgo] at hcl ⊢
    go_enter Try.func46, Try.ntmps46
    go_wp2_with (go_at_call 81; with_reducible refine hcl.mono ?_; rintro e w1 ⟨v1, rfl, hR1, hB1⟩)
    go_ret
    exact ⟨v, rfl, hS.below hB1, hB0.trans (hB1.mono hbw), ⟨hB1.size, fun k hk _ => hB1.block k hk⟩, .inl rfl⟩
  case pos =>
    rw [if_pos hgo]
    rw [hgo] at hcl ⊢
    generalize (cl2 lits).1 = c at *
    obtain ⟨hg, hbg, hRR⟩ := id hS
    obtain ⟨P, rfl, hHK, hp⟩ := id hRR
    have hown0 := hk_own hHK
    rw [List.length_map] at hown0 hXl
    obtain ⟨pv, cv, rfl⟩ := Hlp.own_slice hown0
    have h63 : P.length + 1 ≤ maxLen := by unfold maxLen; omega
    have hby : (P.length + 1) * 24 ≤ 140737488355328 := by omega
    clear hk
    go_enter Try.func46, Try.ntmps46
    go_wp2_with (first
      | (go_at_call 81; with_reducible refine hcl.mono ?_; rintro e w1 ⟨v1, rfl, hR1, hB1⟩; obtain ⟨A1, c1, rfl⟩ := Kd.R_slice hR1; have hg1 := blk_below hg hB1; have z1 := cell_far hg1 0 _ rfl; have hown1 := Hlp.own_below hown0 hB1; have hsz1 := hB1.size; have hszb := Nat.le_trans hbw hB1.size)
      | (at_builtin; refine wpList_append_own_at _ rfl _ _ 45 rfl base 22 i0 (.slice none 0 0) 1 24 Try.underlying45 hi hz0 hz1 hz2 rfl (by decide) _ _ _ rfl (hown1.alloc _) ⟨w1.heap.size, 0, none⟩ 1 1 [.slice A1 c.length c1] rfl rfl (cell_one_new _ _ _) (by simp [Value.oneCell']) h63 hby (by simp; omega) ?_; intro v7 w7 hown7 hg7 hnil7 hloc7; obtain ⟨p7, c7, rfl⟩ := Hlp.own_slice hown7; have hgA := blk_alloc hg1 (.cells #[.slice A1 c.length c1] 22); have hgf := blk_grown hgA hg7 (Hlp.own_ne (hown1.alloc (.cells #[.slice A1 c.length c1] 22)) hgA (by simp)); have zf := blk_frozen hgf 0; have z7 := cell_far hgf 0 _ rfl))
    have hfin := blk_set hgf 0 (.slice p7 (P.length + 1) c7)
    have hxc : w1.ownsRow base 3 1 (hd (A1, c.length, c1)) c.length (ints c) := Hlp.own_base (own_of_R hR1) hbw
    have hHK1 : HK.R 22 (w1.alloc (.cells #[.slice A1 c.length c1] 22)) base (fun _ => True) (.slice pv P.length cv) (P.map (·.1)) := own_hk (by rw [List.length_map]; exact hown1.alloc _)
    have hRR7 := RR.put (x := c) (h := (A1, c.length, c1)) hHK1 (fun p hpm => (Hlp.own_below (hp p hpm) hB1).alloc _) (hxc.alloc _) hg7 hown7
    have hRR8 := hRR7.kept (grown_set w7 g 0 (.slice p7 (P.length + 1) c7)) (.inr (Hlp.own_ne hown7 hgf (by simp)).symm) (fun k e cur h => by cases e; rw [hgf] at h; simp at h)
    go_ret
    refine ⟨.slice p7 (P.length + 1) c7, rfl, ⟨by simpa using hfin, hbg, hRR8⟩, ?_, ⟨?_, fun k hk hn => ?_⟩, ?_⟩
    · exact (((hB0.trans (hB1.mono hbw)).alloc hszb _).grown hg7 (by simp; omega) (fun q e => (hown0.lt q e).1)).setCell hbg _
    · have := hg7.size; simp at this ⊢; omega
    · have h1 : w7.heap[k]? = W.heap[k]? := by
        rw [hg7.block k (by simp; omega) (fun e => hn (.inr e.symm))]
        rw [(World.grownBy_alloc w1 _ none).block k (by omega) (by simp)]
        exact hB1.block k hk
      rw [(grown_set w7 g 0 (.slice p7 (P.length + 1) c7)).block k (by have := hg7.size; simp at this; omega) (fun e => hn (.inl (Option.some.inj e)))]
      exact h1
    · rcases hloc7 with h | h
      · exact .inl h
      · exact .inr ⟨_, h, by simp; omega⟩
theorem kept_blk {W W' : World} {g : Nat} {o : Obj} {v : Value} (h : W.heap[g]? = some o) (hk : Kept W W' (fun k => v.ownBlock = some k)) (hne : some g ≠ v.ownBlock) : W'.heap[g]? = some o := (hk.2 g (blk_lt h) (fun e => hne e.symm)).trans h
def dropL {α : Type} (X : List α) (i : Nat) : List α := X.take i ++ X.drop (i + 1)
theorem find_lt (X : List (List Int)) (c : List Int) (h : findP X c ≥ 0) : (findP X c).toNat < X.length ∧ ((findP X c).toNat : Int) = findP X c := by
  unfold findP at h ⊢
  split at h
  · rename_i hc
    rw [if_pos hc]
    unfold Fun.idxP at h ⊢
    split at h
    · rename_i ha
      rw [if_pos ha]
      refine ⟨?_, by omega⟩
      rw [Int.toNat_natCast]
      exact List.findIdx_lt_length.mpr (List.any_eq_true.mp ha)
    · omega
  · omega
theorem delete_calls {W : World} {base : Nat} {pv : Option Addr} {cv : Nat} {P : List (Hd × List Int)} (hHK : HK.R 22 W base (fun _ => True) (.slice pv P.length cv) (P.map fun p : Hd × List Int => p.1)) (hp : ∀ p ∈ P, W.ownsRow base 3 1 (hd p.1) p.2.length (ints p.2)) (hbw : base ≤ W.heap.size) (i : Nat) (hi : i < P.length) :
    Calls Try.prog 93 #[.slice pv P.length cv, .int .i64 (i : Int), .int .i64 ((i : Int) + 1)] W fun e w' => e = .returned (.slice pv (P.length - 1) cv) ∧ RR w' base (.slice pv (P.length - 1) cv) (dropL (P.map (·.2)) i) ∧ (∀ w0, Below base w0 W → Below base w0 w') ∧ Kept W w' (fun k => (Value.slice pv P.length cv).ownBlock = some k) ∧ w'.heap.size = W.heap.size := by
  obtain ⟨i0, hi0, hz0, hz1, hz2⟩ := info_parts infoH
  obtain ⟨g, cap, cur, e, hcap, hmax, hbase, hok, hg, hsz, ht⟩ := Own.open_row hHK (by rw [List.length_map]; omega)
  rw [List.length_map] at e hcap
  cases e
  have hcon := AnyE.slices_Delete Try.delete_ints hd hd_one (none, 0, 0) Try.zeroValue22 i0 hi0 hz1 g 0 cv i (i + 1) (P.map fun p : Hd × List Int => p.1).toArray W (Own.holds_row hg ht) (by simpa using hcap) (by unfold maxLen at hmax; omega) (by omega) (by simp; omega)
  change Calls Try.prog 93 _ _ _ at hcon
  simp only [List.size_toArray, List.length_map, show i + 1 - i = 1 by omega] at hcon
  rw [show ((i + 1 : Nat) : Int) = (i : Int) + 1 by omega] at hcon
  refine hcon.mono ?_
  rintro e w' ⟨rfl, q, rfl⟩
  have hl : ((P.map fun p : Hd × List Int => p.1).take i ++ (P.map fun p : Hd × List Int => p.1).drop (i + 1)).length = P.length - 1 := by rw [List.length_append, List.length_take, List.length_drop, List.length_map]; omega
  have he : Go.Sort.putRow hd (Go.Sort.ahead W q) g 0 ((P.map fun p : Hd × List Int => p.1).take i ++ (P.map fun p : Hd × List Int => p.1).drop (i + 1) ++ List.replicate 1 ((none, 0, 0) : Hd)).toArray = Go.Proofs.sortWorld hd W g 0 q ((P.map fun p : Hd × List Int => p.1).take i ++ (P.map fun p : Hd × List Int => p.1).drop (i + 1) ++ List.replicate 1 ((none, 0, 0) : Hd)).toArray #[] := by
    unfold Go.Proofs.sortWorld; rw [Go.Sort.grow_empty]
  rw [he]
  have hr := Own.put_row (h1 := hd_one) (enc := hd) (ok := fun _ => True) (base := base) (cap := cv) (d := (P.map fun p : Hd × List Int => p.1).take i ++ (P.map fun p : Hd × List Int => p.1).drop (i + 1) ++ List.replicate 1 ((none, 0, 0) : Hd)) trivial hbase hg (by rw [List.length_append, hl, List.length_replicate]; omega) hmax hsz (P.length - 1) q (by rw [List.length_append, hl]; omega) #[]
  have hk := Own.sort_kept (enc := hd) (w := W) (q := q) (d := ((P.map fun p : Hd × List Int => p.1).take i ++ (P.map fun p : Hd × List Int => p.1).drop (i + 1) ++ List.replicate 1 ((none, 0, 0) : Hd)).toArray) (os := #[]) (S := fun k => (Value.slice (some ⟨g, 0, none⟩) P.length cv).ownBlock = some k) (g := g) rfl
  have htk : ((P.map fun p : Hd × List Int => p.1).take i ++ (P.map fun p : Hd × List Int => p.1).drop (i + 1) ++ List.replicate 1 ((none, 0, 0) : Hd)).take (P.length - 1) = (dropL P i).map (·.1) := by
    rw [List.take_append_of_le_length (by omega), List.take_of_length_le (by omega)]
    unfold dropL
    rw [List.map_append, List.map_take, List.map_drop]
  rw [htk] at hr
  refine ⟨rfl, ⟨dropL P i, by unfold dropL; rw [List.map_append, List.map_take, List.map_drop], hr, fun p hpm => ?_⟩, fun w0 hB => Own.sort_below hB hbase hbw, hk, by simp [Go.Proofs.sortWorld]⟩
  have hpm' : p ∈ P := by
    unfold dropL at hpm
    rcases List.mem_append.mp hpm with h | h
    · exact List.mem_of_mem_take h
    · exact List.mem_of_mem_drop h
  refine own_at (hp p hpm') fun k hb => hk.2 k ((hp p hpm').lt k hb).2 fun e => ?_
  rcases hd_ne (hk_own hHK) (hp p hpm') with h | h
  · rw [hb] at h; cases h
  · exact h (hb.trans e.symm)
set_option maxHeartbeats 1000000 in
set_option maxRecDepth 100000 in
theorem drop_calls {W w0 : World} {base g : Nat} {v : Value} {X : List (List Int)} (hS : ST W base g v X) (hXl : X.length ≤ 1000000) (hB0 : Below base w0 W) (hbw : base ≤ W.heap.size) {A : Option Addr} {cc : Nat} {lits : List Int} (hr : Kd.C (Kd.int .i64) W A lits.length lits) (hcc : lits.length ≤ cc) (hl : lits.length ≤ 1000000) :
    Calls Try.prog 80 #[.pointer (some ⟨g, 0, none⟩), .slice A lits.length cc] W fun e w' => ∃ v', e = .returned (.bool (decide (findP X lits ≥ 0))) ∧ ST w' base g v' (if findP X lits ≥ 0 then dropL X (findP X lits).toNat else X) ∧ Below base w0 w' ∧ Kept W w' (StS g v) ∧ (v'.ownBlock = v.ownBlock ∨ ∃ k, v'.ownBlock = some k ∧ W.heap.size ≤ k) := by
  have hf := find_calls hS.sr hr hcc hl
  by_cases hgo : findP X lits ≥ 0
  case neg =>
    rw [if_neg hgo, decide_eq_false hgo]
    generalize findP X lits = q at *
    have hq : ¬ 0 ≤ q := hgo
    go_enter Try.func80, Try.ntmps80
    go_wp2_with (go_at_call 82; with_reducible refine hf.mono ?_; rintro e w1 ⟨rfl, hB1⟩)
    go_ret
    exact ⟨v, by simp; omega, hS.below hB1, hB0.trans (hB1.mono hbw), ⟨hB1.size, fun k hk _ => hB1.block k hk⟩, .inl rfl⟩
  case pos =>
    rw [if_pos hgo, decide_eq_true hgo]
    obtain ⟨hi, hie⟩ := find_lt X lits hgo
    generalize (findP X lits).toNat = i at *
    rw [← hie] at hf
    obtain ⟨hg, hbg, hRR⟩ := id hS
    obtain ⟨P, rfl, hHK, hp⟩ := id hRR
    have hown0 := hk_own hHK
    rw [List.length_map] at hown0 hXl hi
    obtain ⟨pv, cv, rfl⟩ := Hlp.own_slice hown0
    have hw1 : IntKind.i64.wrap ((i : Int) + 1) = (i : Int) + 1 := (i64_w _).trans (wrap64_in (by omega) (by omega))
    have hdel := fun W1 (hB1 : Below W.heap.size W W1) => delete_calls (W := W1) (Kd.R_below hHK hB1) (fun p hpm => Hlp.own_below (hp p hpm) hB1) (Nat.le_trans hbw hB1.size) i hi
    have hi0 : (0 : Int) ≤ (i : Int) := by omega
    clear hie hgo
    go_enter Try.func80, Try.ntmps80
    go_wp2_with (first
      | (go_at_call 82; with_reducible refine hf.mono ?_; rintro e w1 ⟨rfl, hB1⟩; have hg1 := blk_below hg hB1; have z1 := cell_far hg1 0 _ rfl; have hd1 := hdel _ hB1)
      | (go_at_call 93; with_reducible refine hd1.mono ?_; rintro e w2 ⟨rfl, hRR2, hBe2, hK2, hs2⟩; have hg2 := kept_blk hg1 hK2 (Hlp.own_ne (Hlp.own_below hown0 hB1) hg1 (by simp)); have zf := blk_frozen hg2 0; have z2 := cell_far hg2 0 _ rfl))
    have hfin := blk_set hg2 0 (.slice pv (P.length - 1) cv)
    have hRR3 := hRR2.kept (grown_set w2 g 0 (.slice pv (P.length - 1) cv)) (.inr ?ne) (fun k e cur h => by cases e; rw [hg2] at h; simp at h)
    case ne =>
      obtain ⟨us, hul, huo, _⟩ := hRR2.own
      exact (Hlp.own_ne huo hg2 (by simp)).symm
    go_ret
    refine ⟨.slice pv (P.length - 1) cv, by simp, ⟨by simpa using hfin, hbg, hRR3⟩, (hBe2 _ (hB0.trans (hB1.mono hbw))).setCell hbg _, ⟨?_, fun k hk hn => ?_⟩, .inl ?_⟩
    · have := hB1.size; simp; omega
    · have h1 : w2.heap[k]? = W.heap[k]? := (hK2.2 k (Nat.lt_of_lt_of_le hk hB1.size) (fun e => hn (.inr e))).trans (hB1.block k hk)
      rw [(grown_set w2 g 0 (.slice pv (P.length - 1) cv)).block k (by have := hB1.size; omega) (fun e => hn (.inl (Option.some.inj e)))]
      exact h1
    · cases pv <;> rfl
end Go.Proofs.Ytohgjbkiemnfnaa.Rup
