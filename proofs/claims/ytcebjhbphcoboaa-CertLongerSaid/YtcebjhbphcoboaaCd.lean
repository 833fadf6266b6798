/- Certificates: read. A walk by hand. -/
import Derived.Test.YtcebjhbphcoboaaCb
import Derived.Test.YtcebjhbphcoboaaCc
import Derived.Deep.RegionLaw
import Derived.Shelf.Abstract
namespace Go.Proofs.Ytcebjhbphcoboaa.Crt
open Go Go.RowKit Go.Proofs.Ytcebjhbphcoboaa.C Go.Proofs.Ytcebjhbphcoboaa.Hlp Go.Proofs.YtcebjhbphcoboaaW.PrintWords Go.Proofs.YtcebjhbphcoboaaW.PrintLast Go.Proofs.YtcebjhbphcoboaaW.PrintMore Go.Proofs.Ytcebjhbphcoboaa.Aid
attribute [local go_sem] max2_int min2_int max_two min_two
set_option linter.unusedVariables false
set_option linter.unusedSimpArgs false
def stepsN (b : List Int) : Nat → List S95 → RS → List S95 × RS
  | 0, out, t => (out, t)
  | m + 1, out, t => if t.e ≠ 0 then (out, t) else stepsN b m (out ++ [⟨(stepP b t).1, (stepP b t).2.1⟩]) (stepP b t).2.2
def endP (b : List Int) (s : RS) : RS := if s.a < b.length then failP s s.a 13 else s
def bodyP (b : List Int) : List Int × List S95 × RS :=
  ((coreP b ⟨2, 0, 0⟩).1, (stepsN b (nextP b 1048576 (coreP b ⟨2, 0, 0⟩).2).1.toNat [] (nextP b 1048576 (coreP b ⟨2, 0, 0⟩).2).2).1,
    endP b (stepsN b (nextP b 1048576 (coreP b ⟨2, 0, 0⟩).2).1.toNat [] (nextP b 1048576 (coreP b ⟨2, 0, 0⟩).2).2).2)
def readP (b : List Int) : List Int × List S95 × Int × Int :=
  if b.length < 2 then ([], [], 0, 3) else if (bodyP b).2.2.e ≠ 0 then ([], [], (bodyP b).2.2.f, (bodyP b).2.2.e) else ((bodyP b).1, (bodyP b).2.1, 0, 0)
theorem box_put2 {w0 w W : World} {q B : Nat} {t : TypeId} {b : List Int} {s : RS} {x y : Value} (hx : W.heap[B]? = some (.cells #[x, y] t (0, 0))) (hR : RD w0 W q b s) (hG : Below w.heap.size w W) (hqb : some B ≠ some q) (hB : w.heap.size ≤ B) (hw : w0.heap.size ≤ w.heap.size) (i : Nat) (v : Value) (cs : Array Value) (hcs : #[x, y].setIfInBounds i v = cs) :
    (W.setCell ⟨B, i, none⟩ v).heap[B]? = some (.cells cs t (0, 0)) ∧ RD w0 (W.setCell ⟨B, i, none⟩ v) q b s ∧ Below w.heap.size w (W.setCell ⟨B, i, none⟩ v) := by
  have hg := grown_set W B i v
  refine ⟨by rw [← hcs]; exact blk_set hx i v, hR.grown hg hqb.symm (fun k hk => by have := Option.some.inj hk; omega), hG.grown hg hG.size (fun k hk => by have := Option.some.inj hk; omega)⟩
/-- One element appended, at a step of a region that draws. -/
theorem step_R_append {P : Program} {W : World} {ops : Array Oper} {o : Oper} {a : Act} {K : Act → World → Prop} {Q : Exit → Act → World → Prop} {E : Prop} {α : Type} (d : Kd α) (base : Nat) (hgd : o.guard = none) (s x : Operand) (t e : TypeId) (z : Value) (i : TypeInfo) (bytes : Nat)
    (ho : o.op = .call { callee := .builtin .append, args := #[s, x], argTypes := #[t, t] }) (ht : P.underlying t = some (.slice e)) (hi : P.info? e = some i) (hz : i.zero = some z) (hsize : i.size = d.sz) (hby : i.bytes = bytes) (hzs : z.cells.size = d.sz) (hs0 : 0 < d.sz)
    (v : Value) (xs : List α) (p : α) (cs : List Value) (ok okp : Nat → Prop) (hs : a.eval s = v) (ad : Addr) (c : Nat) (hx : a.eval x = .slice (some ad) 1 c) (hnews : ∀ j u, cs[j]? = some u → W.cell? (ad.add j) = some u) (hp : d.M W base okp p cs) (hokp : ∀ k, okp k → ok k ∧ some k ≠ v.ownBlock) (hfresh : ∀ k, W.heap.size ≤ k → ok k)
    (HO : d.R e W base ok v xs) (h63 : xs.length + 1 ≤ maxLen) (hl : (xs.length + 1) * bytes ≤ 140737488355328) (hbase : base ≤ W.heap.size)
    (h : ∀ v1 w1, d.R e w1 base ok v1 (xs ++ [p]) → W.grownBy w1 v.ownBlock → (v1.ownBlock = v.ownBlock ∨ v1.ownBlock = some W.heap.size) → K (a.put o.dst v1) w1) :
    if Region.wanted o (yielded ops a.tmps) = true then Oper.wp P o a W K Q else E := by
  have hw : Region.wanted o (yielded ops a.tmps) = true := by simp [Region.wanted, hgd]
  rw [if_pos hw]
  obtain ⟨h0, inner, hown, hr⟩ := HO
  obtain ⟨v', w', hrun, ho', hg', _, hb'⟩ := run_append_own_at (P := P) W base t o.type e i z d.sz bytes ht hi hz hsize hby hzs hs0 v xs.length inner hown ad 1 c cs (by rw [Nat.one_mul]; exact d.K_len (d.K_of_M hp)) hnews (d.K_one (d.K_of_M hp)) h63 hl hbase
  unfold Oper.wp execOp
  simp only [ho, resolve, invoke, builtin, Sem.run_bind, Sem.run_pure, Result.andThen_ok, List.map_toArray, List.map_cons, List.map_nil, hs, hx, hrun]
  exact h v' w' (Kd.R_appended h0 hr hp hokp hfresh ho' hg' (hb'.imp id fun e => ⟨_, e, Nat.le_refl _⟩)) hg' hb'
theorem R_of_own {W : World} {base : Nat} {v : Value} {l : List Int} {ok : Nat → Prop} (h : W.ownsRow base 3 1 v l.length (ints l)) (hk : ∀ k, v.ownBlock = some k → ok k) : Kd.R (Kd.int .i64) 3 W base ok v l :=
  ⟨hk, encs (Value.int .i64) l, ⟨by show (encs (Value.int .i64) l).length = l.length * 1; simp [encs], h.2⟩, Kd.reps_scalar l⟩
theorem corT_a (out : List Int) (a p : Int) (s : RS) : (corT out a p s).a = s.a := by
  unfold corT corA
  split <;> split <;> simp [failP_a]
theorem coreN_a (b : List Int) : ∀ m out t, t.a ≤ b.length → (coreN b m out t).2.a ≤ b.length := by
  intro m
  induction m with
  | zero => exact fun out t h => h
  | succ m ih =>
    intro out t h
    rw [coreN]
    split
    · exact h
    · refine ih _ _ ?_
      unfold corS
      rw [corT_a]
      exact (nextP_in b 1048575 (by omega) t h).1
theorem coreP_a (b : List Int) (s : RS) (h : s.a ≤ b.length) : (coreP b s).2.a ≤ b.length := coreN_a b _ _ _ (nextP_in b 65536 (by omega) s h).1
theorem stpN_a (b : List Int) : ∀ m C last t, t.a ≤ b.length → (stpN b m C last t).2.a ≤ b.length := by
  intro m
  induction m with
  | zero => exact fun C last t h => h
  | succ m ih =>
    intro C last t h
    rw [stpN]
    split
    · exact h
    · refine ih _ _ _ ?_
      unfold litS
      split
      · rw [failP_a]; exact (nextP_in b 33554433 (by omega) t h).1
      · exact (nextP_in b 33554433 (by omega) t h).1
theorem stepP_a (b : List Int) (t : RS) (h : t.a ≤ b.length) : (stepP b t).2.2.a ≤ b.length := by
  unfold stepP
  refine stpN_a b _ _ _ _ (nextP_in b 4096 (by omega) _ ?_).1
  unfold stpB knd
  split
  · rw [failP_a]; exact (nextP_in b 4294967295 (by omega) t h).1
  · exact (nextP_in b 4294967295 (by omega) t h).1
theorem infoS' : (Try.prog.info? 95).map (fun i => (i.zero, i.size, i.bytes)) = some (some (.agg #[.int .i64 0, .slice none 0 0]), 2, 32) := by kernel_rfl
theorem R_own95 {W : World} {base : Nat} {ok : Nat → Prop} {v : Value} {xs : List S95} (h : Kd.R k95 95 W base ok v xs) : (∃ A c, v = .slice A xs.length c) ∧ ∀ g o, W.heap[g]? = some o → (∀ cs, o ≠ .cells cs 95 (0, 0)) → some g ≠ v.ownBlock := by
  obtain ⟨A, c, e, _⟩ := h.2.reads
  refine ⟨⟨A, c, e⟩, fun g o hg ho hk => ?_⟩
  obtain ⟨h0, inner, ho', hr⟩ := h
  obtain ⟨cells, hc⟩ := own_typed ho' g hk.symm
  rw [hg] at hc
  exact ho _ (Option.some.inj hc)
theorem R_ge95 {W : World} {base : Nat} {ok : Nat → Prop} {v : Value} {xs : List S95} (h : Kd.R k95 95 W base ok v xs) : ∀ k, v.ownBlock = some k → base ≤ k := fun k hk => by
  obtain ⟨h0, inner, ho', hr⟩ := h
  exact (ho'.lt k hk).1
theorem R_lt95 {W : World} {base : Nat} {ok : Nat → Prop} {v : Value} {xs : List S95} (h : Kd.R k95 95 W base ok v xs) : ∀ k, v.ownBlock = some k → k < W.heap.size := fun k hk => by
  obtain ⟨h0, inner, ho', hr⟩ := h
  exact (ho'.lt k hk).2
/-- Blocks made later are none of the elder ones. -/
theorem late_ok {W : World} {B n b1 : Nat} {k : Nat} {vc v2 : Value} {ok : Nat → Prop} {ys : List Value} {xs : List S95} (hk : W.heap.size ≤ k) (hq : B + 1 < W.heap.size) (h1 : W.ownsRow b1 3 1 vc n ys) (h2 : Kd.R k95 95 W B ok v2 xs) : (k ≠ B + 1 ∧ k ≠ B ∧ some k ≠ vc.ownBlock) ∧ some k ≠ v2.ownBlock :=
  ⟨⟨by omega, by omega, fun e => by have := (h1.lt k e.symm).2; omega⟩, fun e => by have := R_lt95 h2 k e.symm; omega⟩
theorem own_ne95 {W : World} {base b2 n : Nat} {ok : Nat → Prop} {v v1 : Value} {xs : List S95} {ys : List Value} (h : Kd.R k95 95 W base ok v xs) (h1 : W.ownsRow b2 3 1 v1 n ys) : v1.ownBlock = none ∨ v1.ownBlock ≠ v.ownBlock := by
  cases hv : v1.ownBlock with
  | none => exact .inl rfl
  | some k =>
    obtain ⟨cur, hc⟩ := own_type h1 hv
    exact .inr ((R_own95 h).2 k _ hc (fun cs e => by cases e))
set_option maxHeartbeats 4000000 in
set_option maxRecDepth 100000 in
theorem read_calls {w : World} {A : Option Addr} {c : Nat} {b : List Int} (hr : Kd.C (Kd.int .u8) w A b.length b) (hc : b.length ≤ c) (hb : b.length ≤ 1000000000) (hF : b.length < 2 ∨ b.take 2 = [70, 67]) : Calls Try.prog 30 #[.slice A b.length c] w fun r w' => ∃ v1 v2, r = .returned (.tuple #[.agg #[v1, v2], .int .i64 (readP b).2.2.1, .int .i64 (readP b).2.2.2]) ∧ w'.ownsRow w.heap.size 3 1 v1 (readP b).1.length (ints (readP b).1) ∧ Kd.R k95 95 w' w.heap.size (fun k => some k ≠ v1.ownBlock) v2 (readP b).2.1 ∧ Below w.heap.size w w' := by
  have hB1 : Below w.heap.size w (w.alloc (.cells #[.slice none 0 0, .slice none 0 0] 52)) := (Below.refl _ _).alloc (Nat.le_refl _) _
  have hB2 : Below w.heap.size w ((w.alloc (.cells #[.slice none 0 0, .slice none 0 0] 52)).alloc (.cells #[.slice A b.length c, .int .i64 2, .int .i64 0, .int .i64 0] 103)) := hB1.alloc hB1.size _
  have hx2 := blk_alloc (blk_new w (.cells #[.slice none 0 0, .slice none 0 0] 52)) (.cells #[.slice A b.length c, .int .i64 2, .int .i64 0, .int .i64 0] 103)
  have hq2 := blk_new (w.alloc (.cells #[.slice none 0 0, .slice none 0 0] 52)) (.cells #[.slice A b.length c, .int .i64 2, .int .i64 0, .int .i64 0] 103)
  have hR2 : RD w ((w.alloc (.cells #[.slice none 0 0, .slice none 0 0] 52)).alloc (.cells #[.slice A b.length c, .int .i64 2, .int .i64 0, .int .i64 0] 103)) (w.heap.size + 1) b ⟨2, 0, 0⟩ := ⟨A, c, by rw [← show (w.alloc (.cells #[.slice none 0 0, .slice none 0 0] 52)).heap.size = w.heap.size + 1 by simp]; exact hq2, by omega, hc, hr, hB2⟩
  have hqb : some w.heap.size ≠ some (w.heap.size + 1) := fun e => by have := Option.some.inj e; omega
  generalize hW2 : (w.alloc (.cells #[.slice none 0 0, .slice none 0 0] 52)).alloc (.cells #[.slice A b.length c, .int .i64 2, .int .i64 0, .int .i64 0] 103) = W2 at hB2 hx2 hR2
  have HW := Aside0.mk hW2
  clear hW2 hq2
  generalize hRP : readP b = RP
  by_cases h2 : b.length < 2
  · have hI : (b.length : Int) < 2 := by omega
    obtain rfl : RP = ([], [], 0, 3) := by rw [← hRP]; unfold readP; rw [if_pos h2]
    clear hRP
    have x20 := cell_far hx2 0 _ rfl
    have x21 := cell_far hx2 1 _ rfl
    have fb0 := blk_frozen hx2 0
    have fb1 := blk_frozen hx2 1
    obtain ⟨yb1, rr1, gg1⟩ := box_put2 hx2 hR2 hB2 hqb (Nat.le_refl _) (Nat.le_refl _) 0 (.slice none 0 0) #[.slice none 0 0, .slice none 0 0] rfl
    obtain ⟨yb2, rr2, gg2⟩ := box_put2 yb1 rr1 gg1 hqb (Nat.le_refl _) (Nat.le_refl _) 1 (.slice none 0 0) #[.slice none 0 0, .slice none 0 0] rfl
    have x30 := cell_far yb1 0 _ rfl
    have x31 := cell_far yb1 1 _ rfl
    have fc1 := blk_frozen yb1 1
    go_enter Try.func30, Try.ntmps30
    go_wp2_with fail
    refine Lab.wp_scope_lab (Lab.scopeOf Try.f30) ?sc (1048577) ?_
    case sc => kernel_rfl
    (try go_wp2_with fail)
    rw [HW.out]
    (try go_wp2_with fail)
    simp only [Exit.then, Exit.inBlock, Lab.gotos]
    refine bodyPost_ret (results_ctt rfl _ _ w.heap.size 52 #[.slice none 0 0, .slice none 0 0] (0, 0) _ rfl hx2 Try.underlying52 rfl rfl) rfl ?_
    exact ⟨_, _, rfl, World.ownsRow_nil _ _ _ _, Kd.R_nil _ _ _ _ _, hB2⟩
  · have hI : ¬ (b.length : Int) < 2 := by omega
    have hF2 : b.take 2 = [70, 67] := by rcases hF with h | h; (exact absurd h h2); exact h
    obtain ⟨i011, hi011, _, hsz11, _⟩ := info_parts infoB'
    obtain ⟨hcut11, hA11, hC11⟩ := print_take_of (P := Try.prog) (Value.int .u8) 0 22 5 .i64 Try.underlying22 hi011 hsz11 A c b 2 (by omega) (by omega) hc
    have hC2 := Kd.C_of_reads (h1 := fun _ => rfl) (hA11 _ (Kd.reads_of_C (Kd.C_below hr hB2)))
    have hstr := Kd.C_string (P := Try.prog) (src := 22) (dst := 9) (e := 5) (c := c) Try.underlying22 Try.underlying5 Try.underlying9 hC2
    rw [show b.take (Int.toNat 2) = [70, 67] from hF2] at hstr
    have hstr2 : (convert 22 9 (.slice A 2 c)).run Try.prog W2 = .ok (.string ⟨#[70, 67]⟩) W2 := by
      have e : strOfNums [70, 67] = ⟨#[70, 67]⟩ := by kernel_rfl
      rw [e] at hstr
      exact hstr
    clear hstr hcut11
    have hs0 : (⟨2, 0, 0⟩ : RS).a ≤ b.length := by show 2 ≤ b.length; omega
    have hcore := core_calls hR2 hb hs0
    have hca := coreP_a b ⟨2, 0, 0⟩ hs0
    have hRQ : RP = if (endP b (stepsN b (nextP b 1048576 (coreP b ⟨2, 0, 0⟩).2).1.toNat [] (nextP b 1048576 (coreP b ⟨2, 0, 0⟩).2).2).2).e ≠ 0 then ([], [], (endP b (stepsN b (nextP b 1048576 (coreP b ⟨2, 0, 0⟩).2).1.toNat [] (nextP b 1048576 (coreP b ⟨2, 0, 0⟩).2).2).2).f, (endP b (stepsN b (nextP b 1048576 (coreP b ⟨2, 0, 0⟩).2).1.toNat [] (nextP b 1048576 (coreP b ⟨2, 0, 0⟩).2).2).2).e) else ((coreP b ⟨2, 0, 0⟩).1, (stepsN b (nextP b 1048576 (coreP b ⟨2, 0, 0⟩).2).1.toNat [] (nextP b 1048576 (coreP b ⟨2, 0, 0⟩).2).2).1, 0, 0) := by
      rw [← hRP]
      unfold readP
      rw [if_neg h2]
      rfl
    clear hRP
    generalize coreP b ⟨2, 0, 0⟩ = CP at hcore hca hRQ
    obtain ⟨core, s1⟩ := CP
    dsimp only at hcore hca hRQ
    have hnn := fun W (h : RD w W (w.heap.size + 1) b s1) => next_calls h 1048576 hb hca
    have hni := nextP_in b 1048576 (by omega) s1 hca
    generalize nextP b 1048576 s1 = N at hnn hni hRQ
    obtain ⟨L, s2⟩ := N
    dsimp only at hnn hni hRQ
    have HRQ := Aside0.mk hRQ
    clear hRQ
    go_enter Try.func30, Try.ntmps30
    go_wp2_with fail
    refine Lab.wp_scope_lab (Lab.scopeOf Try.f30) ?sc (1048577) ?_
    case sc => kernel_rfl
    (try go_wp2_with fail)
    rw [HW.out]
    go_wp2_with fail
    rw [hstr2]
    go_wp2_with (first
      | (go_at_call 65; with_reducible refine hcore.mono ?_; rintro e5 w5 ⟨v5, rfl, hown5, hR5, hG5⟩; obtain ⟨p5, c5, e5'⟩ := Hlp.own_slice hown5; subst e5'; have hx5 := blk_grown hx2 hG5 hqb; have hB5 : Below w.heap.size w w5 := hB2.grown hG5 hB2.size (fun k hk => by have := Option.some.inj hk; omega); have x50 := cell_far hx5 0 _ rfl; have fx5 := blk_frozen hx5 0; obtain ⟨hx6, hR6, hB6⟩ := box_put2 hx5 hR5 hB5 hqb (Nat.le_refl _) (Nat.le_refl _) 0 (.slice p5 core.length c5) #[.slice p5 core.length c5, .slice none 0 0] rfl; have hown6 := (Hlp.own_base hown5 hB2.size).kept (grown_set w5 w.heap.size 0 (.slice p5 core.length c5)) (.inr (Hlp.own_ne hown5 hx5 (by simp)).symm); obtain ⟨A6, c6, j6⟩ := hR6.blk; have hn6 := hnn _ hR6)
      | (go_at_call 66; with_reducible refine hn6.mono ?_; rintro e7 w7 ⟨rfl, hR7, hG7⟩; have hx7 := blk_grown hx6 hG7 hqb; have hB7 : Below w.heap.size w w7 := hB6.grown hG7 hB6.size (fun k hk => by have := Option.some.inj hk; omega); have hown7 := hown6.kept hG7 (.inr (Hlp.own_ne hown6 j6 (by simp)).symm)))
    go_step3
    go_step
    (try go_step)
    have hok : Kd.R k95 95 w7 w.heap.size (fun k => k ≠ w.heap.size + 1 ∧ k ≠ w.heap.size ∧ some k ≠ (Value.slice p5 core.length c5).ownBlock) (.slice none 0 0) [] := Kd.R_nil _ _ _ _ _
    refine Lab.wp_at_label (l := 0) (fun a0_ kq a_ w_ => ∃ u3 u4 u6 u25 u26 u27 u28 u29 u30 u31 u32 u33 u34 u35 u36 u37 u38 u39 u40 u41 u42 u43 u44 u45 u46 u47 u48 u49 u50 u51 u52 u53 u54 u55 u56 u57 u58 u59 u60 u61 u62 u63 u64 u65 u66 u67 u68 u69 u70 : Value, (∃ (m : Nat) (out : List S95) (t : RS) (v2 : Value), kq = m ∧ u6 = .int .i64 (m : Int) ∧ out.length + m ≤ 1048576 ∧ RD w w_ (w.heap.size + 1) b t ∧ t.a ≤ b.length ∧ stepsN b m out t = stepsN b L.toNat [] s2 ∧ w_.heap[w.heap.size]? = some (.cells #[.slice p5 core.length c5, v2] 52 (0, 0)) ∧ w_.ownsRow w.heap.size 3 1 (.slice p5 core.length c5) core.length (ints core) ∧ Kd.R k95 95 w_ w.heap.size (fun k => k ≠ w.heap.size + 1 ∧ k ≠ w.heap.size ∧ some k ≠ (Value.slice p5 core.length c5).ownBlock) v2 out ∧ Below w.heap.size w w_) ∧ a_ = (((((((((((((((((((((((((((((((((((((((((((((((((a0_.put (some 3) u3).put (some 4) u4).put (some 6) u6).put (some 25) u25).put (some 26) u26).put (some 27) u27).put (some 28) u28).put (some 29) u29).put (some 30) u30).put (some 31) u31).put (some 32) u32).put (some 33) u33).put (some 34) u34).put (some 35) u35).put (some 36) u36).put (some 37) u37).put (some 38) u38).put (some 39) u39).put (some 40) u40).put (some 41) u41).put (some 42) u42).put (some 43) u43).put (some 44) u44).put (some 45) u45).put (some 46) u46).put (some 47) u47).put (some 48) u48).put (some 49) u49).put (some 50) u50).put (some 51) u51).put (some 52) u52).put (some 53) u53).put (some 54) u54).put (some 55) u55).put (some 56) u56).put (some 57) u57).put (some 58) u58).put (some 59) u59).put (some 60) u60).put (some 61) u61).put (some 62) u62).put (some 63) u63).put (some 64) u64).put (some 65) u65).put (some 66) u66).put (some 67) u67).put (some 68) u68).put (some 69) u69).put (some 70) u70)) L.toNat ?fl (by omega) ?atStart ?round
    case fl => kernel_rfl
    case atStart =>
      (repeat apply Exists.intro)
      refine ⟨?rel, ?fr⟩
      case fr => (simp only [Act.put, List.setIfInBounds_toArray, List.set_cons_zero, List.set_cons_succ] <;> rfl)
      case rel => exact ⟨L.toNat, [], s2, .slice none 0 0, rfl, by rw [Int.toNat_of_nonneg (by omega)], by simp; omega, hR7, by omega, rfl, hx7, hown7, hok, hB7⟩
    case round =>
      intro gk a_ wr hle_ hinv HIH
      obtain ⟨u3, u4, u6, u25, u26, u27, u28, u29, u30, u31, u32, u33, u34, u35, u36, u37, u38, u39, u40, u41, u42, u43, u44, u45, u46, u47, u48, u49, u50, u51, u52, u53, u54, u55, u56, u57, u58, u59, u60, u61, u62, u63, u64, u65, u66, u67, u68, u69, u70, ⟨m, out, t, v2, hgk, rfl, hom, hR, hta, hco, hbt, hown, hRk, hB⟩, rfl⟩ := hinv
      subst hgk
      simp only [Act.put, List.setIfInBounds_toArray, List.set_cons_zero, List.set_cons_succ]
      obtain ⟨p2, c2, rfl⟩ : ∃ p c, v2 = .slice p out.length c := by
        obtain ⟨A2, c2, e2, _⟩ := hRk.2.reads
        exact ⟨_, _, e2⟩
      obtain ⟨At, ct, hbq⟩ := hR.blk
      have z1t := cell_far hbq 1 _ rfl
      have z2t := cell_far hbq 2 _ rfl
      have z3t := cell_far hbq 3 _ rfl
      have xt0 := cell_far hbt 0 _ rfl
      have xt1 := cell_far hbt 1 _ rfl
      by_cases hgo : 0 < gk ∧ t.e = 0
      · obtain ⟨hg0, he⟩ := hgo
        obtain ⟨m, rfl⟩ : ∃ m, gk = m + 1 := ⟨gk - 1, by omega⟩
        rw [stepsN, if_neg (fun h => h he)] at hco
        have hef : (t.e == 0) = true := by rw [he]; rfl
        have hmI : (0 : Int) < (m : Int) + 1 := by omega
        clear hg0 he
        go_wp2_with fail
        have hRd : RD w wr.drew (w.heap.size + 1) b t := hR.grown (grown_drewN wr 1 none) (by simp) (by simp)
        have hstep := step_calls hRd hb hta
        have hta5 := stepP_a b t hta
        generalize stepP b t = ST at hstep hco hta5
        obtain ⟨kd, C, t5⟩ := ST
        dsimp only at hstep hco hta5
        have eg67 : ∀ args w, (callFunc 67 args).run Try.prog w = .ok (.enter 67 args) w := enters_of Try.func67 (by kernel_rfl) rfl
        obtain ⟨i9, hi9, hz90, hz91, hz92⟩ := info_parts infoS'
        have hxd := blk_drew hbt
        have xd1 := cell_far hxd 1 _ rfl
        have hRkd := Kd.R_drew hRk
        have hownd := hown.kept (grown_drewN wr 1 none) (by cases (Value.slice p5 core.length c5).ownBlock <;> simp)
        have hBd : Below w.heap.size w wr.drew := below_drew1 hB
        have hqw : w.heap.size + 1 < wr.heap.size := blk_lt hbq
        have hBw : w.heap.size < wr.heap.size := blk_lt hbt
        have hm63 : out.length + 1 ≤ maxLen := by unfold maxLen; omega
        have hby : (out.length + 1) * 32 ≤ 140737488355328 := by omega
        have HC := Aside0.mk hco
        clear hco
        go_region_law (first
          | (refine Hlp.step_call rfl 67 [.tmp 36] #[101] rfl [.pointer (some ⟨w.heap.size + 1, 0, none⟩)] rfl eg67 ?_; refine hstep.mono ?_; rintro e5 w5 ⟨v, rfl, hown5, hR5, hG5⟩; obtain ⟨pv, cv, rfl⟩ := Hlp.own_slice hown5; have hx5 := blk_grown hxd hG5 hqb; have y51 := cell_far hx5 1 _ rfl; have y52 := cell_far (blk_alloc hx5 (.cells #[.int .i64 kd, .slice pv C.length cv] 95)) 1 _ rfl; obtain ⟨A5, c5', j5⟩ := hR5.blk; have hB5 : Below w.heap.size w w5 := hBd.grown hG5 hBd.size (fun k hk => by have := Option.some.inj hk; omega); have hRk5 := Kd.R_grown hRkd hG5 (fun k hk e => hk.1 (Option.some.inj e)); have hown6 := hownd.kept hG5 (.inr (Hlp.own_ne hownd (blk_drew hbq) (by simp)).symm); have hq5 : w.heap.size + 1 < (w5.alloc (.cells #[.int .i64 kd, .slice pv C.length cv] 95)).heap.size := (by have := hG5.size; have := (World.grownBy_alloc w5 (.cells #[.int .i64 kd, .slice pv C.length cv] 95) none).size; simp only [World.drew] at *; omega); refine ⟨_, rfl, ?_⟩)
          | (refine step_R_append k95 w.heap.size rfl (.tmp 35) (.tmp 38) 50 95 (.agg #[.int .i64 0, .slice none 0 0]) i9 32 rfl Try.underlying50 hi9 hz90 hz91 hz92 rfl (by decide) (.slice p2 out.length c2) out ⟨kd, C⟩ [.int .i64 kd, .slice pv C.length cv] (fun k => k ≠ w.heap.size + 1 ∧ k ≠ w.heap.size ∧ some k ≠ (Value.slice p5 core.length c5).ownBlock) (fun k => (k ≠ w.heap.size + 1 ∧ k ≠ w.heap.size ∧ some k ≠ (Value.slice p5 core.length c5).ownBlock) ∧ some k ≠ (Value.slice p2 out.length c2).ownBlock) rfl ⟨w5.heap.size, 0, none⟩ 1 rfl (World.news_of_block (blk_new w5 (.cells #[.int .i64 kd, .slice pv C.length cv] 95))) (k95_mkM _ _ _ ⟨kd, C⟩ (R_of_own ((Hlp.own_base hown5 (by have := hBd.size; omega)).alloc _) (fun k hk => late_ok (hown5.lt k hk).1 hqw hownd hRkd))) (fun _ h => h) (fun k hk => (late_ok hk hq5 (hown6.alloc _) (Kd.R_alloc hRk5 _)).1) (Kd.R_alloc hRk5 _) hm63 hby (by have := hB5.size; simp; omega) ?_; intro v6 w6 hR6 hG6 hat6; have hx6 := blk_grown (blk_alloc hx5 (.cells #[.int .i64 kd, .slice pv C.length cv] 95)) hG6 ((R_own95 (Kd.R_alloc hRk5 (.cells #[.int .i64 kd, .slice pv C.length cv] 95))).2 _ _ (blk_alloc hx5 (.cells #[.int .i64 kd, .slice pv C.length cv] 95)) (fun cs e => by cases e)); have y61 := cell_far hx6 1 _ rfl; have f61 := blk_frozen hx6 1; obtain ⟨⟨p6, c6, e6⟩, _⟩ := R_own95 hR6; rw [List.length_append, List.length_singleton] at e6; subst e6)
          )
        all_goals
          have hRk5' := Kd.R_alloc hRk5 (.cells #[.int .i64 kd, .slice pv C.length cv] 95)
          have hB5' := hB5.alloc hB5.size (.cells #[.int .i64 kd, .slice pv C.length cv] 95)
          have hRq6 := (hR5.below ((Below.refl _ _).alloc (Nat.le_refl _) (.cells #[.int .i64 kd, .slice pv C.length cv] 95))).grown hG6 ((R_own95 hRk5').2 _ _ (blk_alloc j5 (.cells #[.int .i64 kd, .slice pv C.length cv] 95)) (fun cs e => by cases e)) (fun k hk => R_ge95 hRk5' k hk)
          have hB6 : Below w.heap.size w w6 := hB5'.grown hG6 hB5'.size (fun k hk => R_ge95 hRk5' k hk)
          have hown7 := ((hown6.alloc (.cells #[.int .i64 kd, .slice pv C.length cv] 95)).kept hG6 (own_ne95 hRk5' (hown6.alloc _)))
          have hown8 := hown7.kept (grown_set w6 w.heap.size 1 (.slice p6 (out.length + 1) c6)) (.inr (Hlp.own_ne hown7 hx6 (by simp)).symm)
          have hR8 := Kd.R_grown hR6 (grown_set w6 w.heap.size 1 (.slice p6 (out.length + 1) c6)) (fun k hk e => hk.2.1 (Option.some.inj e))
          obtain ⟨hx8, hRq8, hB8⟩ := box_put2 hx6 hRq6 hB6 hqb (Nat.le_refl _) (Nat.le_refl _) 1 (.slice p6 (out.length + 1) c6) #[.slice p5 core.length c5, .slice p6 (out.length + 1) c6] rfl
          go_wp2_with fail
          go_step3
          simp only [Exit.then, Exit.inBlock, Lab.gotos]
          refine Lab.again HIH m (by omega) (by omega) ?_
          (repeat apply Exists.intro)
          refine ⟨?rel, ?fr⟩
          case fr => (simp only [Act.put, List.setIfInBounds_toArray, List.set_cons_zero, List.set_cons_succ] <;> rfl)
          case rel => exact ⟨m, out ++ [⟨kd, C⟩], t5, .slice p6 (out.length + 1) c6, rfl, rfl, by rw [List.length_append, List.length_singleton]; omega, hRq8, hta5, HC.out, hx8, hown8, hR8, hB8⟩
      · have HX := Aside0.mk (show stepsN b L.toNat [] s2 = (out, t) by
          rw [← hco]
          cases gk with
          | zero => rfl
          | succ m =>
            rw [stepsN, if_pos (fun e => hgo ⟨by omega, e⟩)])
        clear hco
        have hRkq := fun (w5 : World) (hg : wr.grownBy w5 (some (w.heap.size + 1))) => Kd.R_grown hRk hg (fun k hk e => hk.1 (Option.some.inj e))
        by_cases hE : t.e = 0
        · obtain rfl : gk = 0 := by
            rcases Nat.eq_zero_or_pos gk with e | e
            · exact e
            · exact absurd ⟨e, hE⟩ hgo
          by_cases ha : t.a < b.length
          · have haI : (t.a : Int) < (b.length : Int) := by omega
            have hfe : ((failP t t.a 13).e != 0) = true := bne_iff_ne.mpr (failP_e _ _ _ (by decide))
            go_wp2_with (first
              | (go_at_call 68; with_reducible refine (fail_calls hR (t.a : Int) 13).mono ?_; rintro e5 w5 ⟨rfl, hR5, hG5⟩; have hx5 := blk_grown hbt hG5 hqb; have hB5 : Below w.heap.size w w5 := hB.grown hG5 hB.size (fun k hk => by have := Option.some.inj hk; omega); have hRk5 := hRkq w5 hG5; have hown5 := hown.kept hG5 (.inr (Hlp.own_ne hown hbq (by simp)).symm); obtain ⟨A5, c5', j5⟩ := hR5.blk; have y52 := cell_far j5 2 _ rfl; have y53 := cell_far j5 3 _ rfl; have yb0 := cell_far hx5 0 _ rfl; have yb1 := cell_far hx5 1 _ rfl; have yf0 := blk_frozen hx5 0; have yf1 := blk_frozen hx5 1))
            have d2 := cell_far (blk_drew j5) 2 _ rfl
            have d3 := cell_far (blk_drew j5) 3 _ rfl
            have db0 := cell_far (blk_drew hx5) 0 _ rfl
            have db1 := cell_far (blk_drew hx5) 1 _ rfl
            have df0 := blk_frozen (blk_drew hx5) 0
            have df1 := blk_frozen (blk_drew hx5) 1
            obtain ⟨hx8, hRq8, hB8⟩ := box_put2 (blk_drew hx5) (hR5.grown (grown_drewN w5 1 none) (by simp) (by simp)) (below_drew1 hB5) hqb (Nat.le_refl _) (Nat.le_refl _) 0 (.slice none 0 0) #[.slice none 0 0, .slice p2 out.length c2] rfl
            obtain ⟨hx9, hRq9, hB9⟩ := box_put2 hx8 hRq8 hB8 hqb (Nat.le_refl _) (Nat.le_refl _) 1 (.slice none 0 0) #[.slice none 0 0, .slice none 0 0] rfl
            have e81 := cell_far hx8 1 _ rfl
            have g81 := blk_frozen hx8 1
            obtain ⟨A9, c9, j9⟩ := hRq9.blk
            have d92 := cell_far j9 2 _ rfl
            have d93 := cell_far j9 3 _ rfl
            go_region_law (fail)
            all_goals
              go_wp2_with fail
              (try simp only [Exit.then, Exit.inBlock, Lab.gotos])
              obtain ⟨hy8, hRy8, hBy8⟩ := box_put2 hx5 hR5 hB5 hqb (Nat.le_refl _) (Nat.le_refl _) 0 (.slice none 0 0) #[.slice none 0 0, .slice p2 out.length c2] rfl
              obtain ⟨hy9, hRy9, hBy9⟩ := box_put2 hy8 hRy8 hBy8 hqb (Nat.le_refl _) (Nat.le_refl _) 1 (.slice none 0 0) #[.slice none 0 0, .slice none 0 0] rfl
              have e1 : endP b t = failP t t.a 13 := by unfold endP; rw [if_pos ha]
              have e2 : RP = ([], [], (failP t t.a 13).f, (failP t t.a 13).e) := by rw [HRQ.out, HX.out]; dsimp only; rw [e1, if_pos (failP_e _ _ _ (by decide))]
              refine bodyPost_ret (results_ctt rfl _ _ w.heap.size 52 #[.slice none 0 0, .slice none 0 0] (0, 0) _ rfl (blk_drew hy9) Try.underlying52 rfl rfl) rfl ?_
              rw [e2]
              exact ⟨_, _, rfl, World.ownsRow_nil _ _ _ _, Kd.R_nil _ _ _ _ _, below_drew1 hBy9⟩
          · have haI : ¬ (t.a : Int) < (b.length : Int) := by omega
            have hfe : (t.e != 0) = false := by rw [hE]; rfl
            have yf0 := blk_frozen hbt 0
            have yf1 := blk_frozen hbt 1
            go_wp2_with fail
            (try simp only [Exit.then, Exit.inBlock, Lab.gotos])
            obtain ⟨hx8, hRq8, hB8⟩ := box_put2 hbt hR hB hqb (Nat.le_refl _) (Nat.le_refl _) 0 (.slice p5 core.length c5) #[.slice p5 core.length c5, .slice p2 out.length c2] rfl
            obtain ⟨hx9, hRq9, hB9⟩ := box_put2 hx8 hRq8 hB8 hqb (Nat.le_refl _) (Nat.le_refl _) 1 (.slice p2 out.length c2) #[.slice p5 core.length c5, .slice p2 out.length c2] rfl
            have hown8 := (hown.kept (grown_set wr w.heap.size 0 (.slice p5 core.length c5)) (.inr (Hlp.own_ne hown hbt (by simp)).symm)).kept (grown_set (wr.setCell ⟨w.heap.size, 0, none⟩ (.slice p5 core.length c5)) w.heap.size 1 (.slice p2 out.length c2)) (.inr (Hlp.own_ne hown hbt (by simp)).symm)
            have hR9 := Kd.R_grown (Kd.R_grown hRk (grown_set wr w.heap.size 0 (.slice p5 core.length c5)) (fun k hk e => hk.2.1 (Option.some.inj e))) (grown_set (wr.setCell ⟨w.heap.size, 0, none⟩ (.slice p5 core.length c5)) w.heap.size 1 (.slice p2 out.length c2)) (fun k hk e => hk.2.1 (Option.some.inj e))
            have e1 : endP b t = t := by unfold endP; rw [if_neg ha]
            have e2 : RP = (core, out, 0, 0) := by rw [HRQ.out, HX.out]; dsimp only; rw [e1, if_neg (fun h => h hE)]
            refine bodyPost_ret (results_ctt rfl _ _ w.heap.size 52 #[.slice p5 core.length c5, .slice p2 out.length c2] (0, 0) _ rfl hx9 Try.underlying52 rfl rfl) rfl ?_
            rw [e2]
            exact ⟨_, _, rfl, hown8, Kd.R_mono hR9 (fun _ hk => hk.2.2), hB9⟩
        · cases gk with
          | zero =>
            by_cases ha : t.a < b.length
            · have haI : (t.a : Int) < (b.length : Int) := by omega
              have hfe : ((failP t t.a 13).e != 0) = true := bne_iff_ne.mpr (failP_e _ _ _ (by decide))
              go_wp2_with (first
                | (go_at_call 68; with_reducible refine (fail_calls hR (t.a : Int) 13).mono ?_; rintro e5 w5 ⟨rfl, hR5, hG5⟩; have hx5 := blk_grown hbt hG5 hqb; have hB5 : Below w.heap.size w w5 := hB.grown hG5 hB.size (fun k hk => by have := Option.some.inj hk; omega); have hRk5 := hRkq w5 hG5; have hown5 := hown.kept hG5 (.inr (Hlp.own_ne hown hbq (by simp)).symm); obtain ⟨A5, c5', j5⟩ := hR5.blk; have y52 := cell_far j5 2 _ rfl; have y53 := cell_far j5 3 _ rfl; have yb0 := cell_far hx5 0 _ rfl; have yb1 := cell_far hx5 1 _ rfl; have yf0 := blk_frozen hx5 0; have yf1 := blk_frozen hx5 1))
              have d2 := cell_far (blk_drew j5) 2 _ rfl
              have d3 := cell_far (blk_drew j5) 3 _ rfl
              have db0 := cell_far (blk_drew hx5) 0 _ rfl
              have db1 := cell_far (blk_drew hx5) 1 _ rfl
              have df0 := blk_frozen (blk_drew hx5) 0
              have df1 := blk_frozen (blk_drew hx5) 1
              obtain ⟨hx8, hRq8, hB8⟩ := box_put2 (blk_drew hx5) (hR5.grown (grown_drewN w5 1 none) (by simp) (by simp)) (below_drew1 hB5) hqb (Nat.le_refl _) (Nat.le_refl _) 0 (.slice none 0 0) #[.slice none 0 0, .slice p2 out.length c2] rfl
              obtain ⟨hx9, hRq9, hB9⟩ := box_put2 hx8 hRq8 hB8 hqb (Nat.le_refl _) (Nat.le_refl _) 1 (.slice none 0 0) #[.slice none 0 0, .slice none 0 0] rfl
              have e81 := cell_far hx8 1 _ rfl
              have g81 := blk_frozen hx8 1
              obtain ⟨A9, c9, j9⟩ := hRq9.blk
              have d92 := cell_far j9 2 _ rfl
              have d93 := cell_far j9 3 _ rfl
              go_region_law (fail)
              all_goals
                go_wp2_with fail
                (try simp only [Exit.then, Exit.inBlock, Lab.gotos])
                obtain ⟨hy8, hRy8, hBy8⟩ := box_put2 hx5 hR5 hB5 hqb (Nat.le_refl _) (Nat.le_refl _) 0 (.slice none 0 0) #[.slice none 0 0, .slice p2 out.length c2] rfl
                obtain ⟨hy9, hRy9, hBy9⟩ := box_put2 hy8 hRy8 hBy8 hqb (Nat.le_refl _) (Nat.le_refl _) 1 (.slice none 0 0) #[.slice none 0 0, .slice none 0 0] rfl
                have e1 : endP b t = failP t t.a 13 := by unfold endP; rw [if_pos ha]
                have e2 : RP = ([], [], (failP t t.a 13).f, (failP t t.a 13).e) := by rw [HRQ.out, HX.out]; dsimp only; rw [e1, if_pos (failP_e _ _ _ (by decide))]
                refine bodyPost_ret (results_ctt rfl _ _ w.heap.size 52 #[.slice none 0 0, .slice none 0 0] (0, 0) _ rfl (blk_drew hy9) Try.underlying52 rfl rfl) rfl ?_
                rw [e2]
                exact ⟨_, _, rfl, World.ownsRow_nil _ _ _ _, Kd.R_nil _ _ _ _ _, below_drew1 hBy9⟩
            · have haI : ¬ (t.a : Int) < (b.length : Int) := by omega
              have hfe : (t.e != 0) = true := bne_iff_ne.mpr hE
              have yf0 := blk_frozen hbt 0
              have yf1 := blk_frozen hbt 1
              go_wp2_with fail
              have d2 := cell_far (blk_drew hbq) 2 _ rfl
              have d3 := cell_far (blk_drew hbq) 3 _ rfl
              have db0 := cell_far (blk_drew hbt) 0 _ rfl
              have db1 := cell_far (blk_drew hbt) 1 _ rfl
              have df0 := blk_frozen (blk_drew hbt) 0
              have df1 := blk_frozen (blk_drew hbt) 1
              obtain ⟨hx8, hRq8, hB8⟩ := box_put2 (blk_drew hbt) (hR.grown (grown_drewN wr 1 none) (by simp) (by simp)) (below_drew1 hB) hqb (Nat.le_refl _) (Nat.le_refl _) 0 (.slice none 0 0) #[.slice none 0 0, .slice p2 out.length c2] rfl
              obtain ⟨hx9, hRq9, hB9⟩ := box_put2 hx8 hRq8 hB8 hqb (Nat.le_refl _) (Nat.le_refl _) 1 (.slice none 0 0) #[.slice none 0 0, .slice none 0 0] rfl
              have e81 := cell_far hx8 1 _ rfl
              have g81 := blk_frozen hx8 1
              obtain ⟨A9, c9, j9⟩ := hRq9.blk
              have d92 := cell_far j9 2 _ rfl
              have d93 := cell_far j9 3 _ rfl
              go_region_law (fail)
              all_goals
                go_wp2_with fail
                (try simp only [Exit.then, Exit.inBlock, Lab.gotos])
                obtain ⟨hy8, hRy8, hBy8⟩ := box_put2 hbt hR hB hqb (Nat.le_refl _) (Nat.le_refl _) 0 (.slice none 0 0) #[.slice none 0 0, .slice p2 out.length c2] rfl
                obtain ⟨hy9, hRy9, hBy9⟩ := box_put2 hy8 hRy8 hBy8 hqb (Nat.le_refl _) (Nat.le_refl _) 1 (.slice none 0 0) #[.slice none 0 0, .slice none 0 0] rfl
                have e1 : endP b t = t := by unfold endP; rw [if_neg ha]
                have e2 : RP = ([], [], (t).f, (t).e) := by rw [HRQ.out, HX.out]; dsimp only; rw [e1, if_pos (hE)]
                refine bodyPost_ret (results_ctt rfl _ _ w.heap.size 52 #[.slice none 0 0, .slice none 0 0] (0, 0) _ rfl (blk_drew hy9) Try.underlying52 rfl rfl) rfl ?_
                rw [e2]
                exact ⟨_, _, rfl, World.ownsRow_nil _ _ _ _, Kd.R_nil _ _ _ _ _, below_drew1 hBy9⟩
          | succ m =>
            have hmI : (0 : Int) < (m : Int) + 1 := by omega
            have hef : (t.e == 0) = false := beq_eq_false_iff_ne.mpr hE
            by_cases ha : t.a < b.length
            · have haI : (t.a : Int) < (b.length : Int) := by omega
              have hfe : ((failP t t.a 13).e != 0) = true := bne_iff_ne.mpr (failP_e _ _ _ (by decide))
              go_wp2_with (first
                | (go_at_call 68; with_reducible refine (fail_calls hR (t.a : Int) 13).mono ?_; rintro e5 w5 ⟨rfl, hR5, hG5⟩; have hx5 := blk_grown hbt hG5 hqb; have hB5 : Below w.heap.size w w5 := hB.grown hG5 hB.size (fun k hk => by have := Option.some.inj hk; omega); have hRk5 := hRkq w5 hG5; have hown5 := hown.kept hG5 (.inr (Hlp.own_ne hown hbq (by simp)).symm); obtain ⟨A5, c5', j5⟩ := hR5.blk; have y52 := cell_far j5 2 _ rfl; have y53 := cell_far j5 3 _ rfl; have yb0 := cell_far hx5 0 _ rfl; have yb1 := cell_far hx5 1 _ rfl; have yf0 := blk_frozen hx5 0; have yf1 := blk_frozen hx5 1))
              have d2 := cell_far (blk_drew j5) 2 _ rfl
              have d3 := cell_far (blk_drew j5) 3 _ rfl
              have db0 := cell_far (blk_drew hx5) 0 _ rfl
              have db1 := cell_far (blk_drew hx5) 1 _ rfl
              have df0 := blk_frozen (blk_drew hx5) 0
              have df1 := blk_frozen (blk_drew hx5) 1
              obtain ⟨hx8, hRq8, hB8⟩ := box_put2 (blk_drew hx5) (hR5.grown (grown_drewN w5 1 none) (by simp) (by simp)) (below_drew1 hB5) hqb (Nat.le_refl _) (Nat.le_refl _) 0 (.slice none 0 0) #[.slice none 0 0, .slice p2 out.length c2] rfl
              obtain ⟨hx9, hRq9, hB9⟩ := box_put2 hx8 hRq8 hB8 hqb (Nat.le_refl _) (Nat.le_refl _) 1 (.slice none 0 0) #[.slice none 0 0, .slice none 0 0] rfl
              have e81 := cell_far hx8 1 _ rfl
              have g81 := blk_frozen hx8 1
              obtain ⟨A9, c9, j9⟩ := hRq9.blk
              have d92 := cell_far j9 2 _ rfl
              have d93 := cell_far j9 3 _ rfl
              go_region_law (fail)
              all_goals
                go_wp2_with fail
                (try simp only [Exit.then, Exit.inBlock, Lab.gotos])
                obtain ⟨hy8, hRy8, hBy8⟩ := box_put2 hx5 hR5 hB5 hqb (Nat.le_refl _) (Nat.le_refl _) 0 (.slice none 0 0) #[.slice none 0 0, .slice p2 out.length c2] rfl
                obtain ⟨hy9, hRy9, hBy9⟩ := box_put2 hy8 hRy8 hBy8 hqb (Nat.le_refl _) (Nat.le_refl _) 1 (.slice none 0 0) #[.slice none 0 0, .slice none 0 0] rfl
                have e1 : endP b t = failP t t.a 13 := by unfold endP; rw [if_pos ha]
                have e2 : RP = ([], [], (failP t t.a 13).f, (failP t t.a 13).e) := by rw [HRQ.out, HX.out]; dsimp only; rw [e1, if_pos (failP_e _ _ _ (by decide))]
                refine bodyPost_ret (results_ctt rfl _ _ w.heap.size 52 #[.slice none 0 0, .slice none 0 0] (0, 0) _ rfl (blk_drew hy9) Try.underlying52 rfl rfl) rfl ?_
                rw [e2]
                exact ⟨_, _, rfl, World.ownsRow_nil _ _ _ _, Kd.R_nil _ _ _ _ _, below_drew1 hBy9⟩
            · have haI : ¬ (t.a : Int) < (b.length : Int) := by omega
              have hfe : (t.e != 0) = true := bne_iff_ne.mpr hE
              have yf0 := blk_frozen hbt 0
              have yf1 := blk_frozen hbt 1
              go_wp2_with fail
              have d2 := cell_far (blk_drew hbq) 2 _ rfl
              have d3 := cell_far (blk_drew hbq) 3 _ rfl
              have db0 := cell_far (blk_drew hbt) 0 _ rfl
              have db1 := cell_far (blk_drew hbt) 1 _ rfl
              have df0 := blk_frozen (blk_drew hbt) 0
              have df1 := blk_frozen (blk_drew hbt) 1
              obtain ⟨hx8, hRq8, hB8⟩ := box_put2 (blk_drew hbt) (hR.grown (grown_drewN wr 1 none) (by simp) (by simp)) (below_drew1 hB) hqb (Nat.le_refl _) (Nat.le_refl _) 0 (.slice none 0 0) #[.slice none 0 0, .slice p2 out.length c2] rfl
              obtain ⟨hx9, hRq9, hB9⟩ := box_put2 hx8 hRq8 hB8 hqb (Nat.le_refl _) (Nat.le_refl _) 1 (.slice none 0 0) #[.slice none 0 0, .slice none 0 0] rfl
              have e81 := cell_far hx8 1 _ rfl
              have g81 := blk_frozen hx8 1
              obtain ⟨A9, c9, j9⟩ := hRq9.blk
              have d92 := cell_far j9 2 _ rfl
              have d93 := cell_far j9 3 _ rfl
              go_region_law (fail)
              all_goals
                go_wp2_with fail
                (try simp only [Exit.then, Exit.inBlock, Lab.gotos])
                obtain ⟨hy8, hRy8, hBy8⟩ := box_put2 hbt hR hB hqb (Nat.le_refl _) (Nat.le_refl _) 0 (.slice none 0 0) #[.slice none 0 0, .slice p2 out.length c2] rfl
                obtain ⟨hy9, hRy9, hBy9⟩ := box_put2 hy8 hRy8 hBy8 hqb (Nat.le_refl _) (Nat.le_refl _) 1 (.slice none 0 0) #[.slice none 0 0, .slice none 0 0] rfl
                have e1 : endP b t = t := by unfold endP; rw [if_neg ha]
                have e2 : RP = ([], [], (t).f, (t).e) := by rw [HRQ.out, HX.out]; dsimp only; rw [e1, if_pos (hE)]
                refine bodyPost_ret (results_ctt rfl _ _ w.heap.size 52 #[.slice none 0 0, .slice none 0 0] (0, 0) _ rfl (blk_drew hy9) Try.underlying52 rfl rfl) rfl ?_
                rw [e2]
                exact ⟨_, _, rfl, World.ownsRow_nil _ _ _ _, Kd.R_nil _ _ _ _ _, below_drew1 hBy9⟩
end Go.Proofs.Ytcebjhbphcoboaa.Crt
