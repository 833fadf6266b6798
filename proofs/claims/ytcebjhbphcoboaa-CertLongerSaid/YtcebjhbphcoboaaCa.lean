/- Certificates: a short number as it is read; a reader's numbers. Plain words, and walks by hand. -/
import Derived.Test.YtcebjhbphcoboaaAid
import Derived.Test.YtcebjhbphcoboaaQGrw
import Derived.Test.YtcebjhbphcoboaaApx
import Derived.Test.YtcebjhbphcoboaaCn58
namespace Go.Proofs.Ytcebjhbphcoboaa.Crt
open Go Go.RowKit Go.Proofs.Ytcebjhbphcoboaa.C Go.Proofs.Ytcebjhbphcoboaa.Hlp Go.Proofs.YtcebjhbphcoboaaW.PrintWords Go.Proofs.YtcebjhbphcoboaaW.PrintLast Go.Proofs.YtcebjhbphcoboaaW.PrintMore Go.Proofs.Ytcebjhbphcoboaa.Aid
attribute [local go_sem] max2_int min2_int max_two min_two
set_option linter.unusedVariables false
set_option linter.unusedSimpArgs false
def ints (l : List Int) : List Value := l.map (Value.int .i64)
def byts (l : List Int) : List Value := l.map (Value.int .u8)
theorem infoI' : (Try.prog.info? 3).map (fun i => (i.zero, i.size, i.bytes)) = some (some (.int .i64 0), 1, 8) := by kernel_rfl
theorem infoB' : (Try.prog.info? 5).map (fun i => (i.zero, i.size, i.bytes)) = some (some (.int .u8 0), 1, 1) := by kernel_rfl
theorem own_of_R {w : World} {base : Nat} {ok : Nat → Prop} {v : Value} {l : List Int} (h : Kd.R (Kd.int .i64) 3 w base ok v l) : w.ownsRow base 3 1 v l.length (ints l) := by
  obtain ⟨h0, inner, ho, hr⟩ := h
  obtain rfl := Kd.reps_encs hr
  exact ho
theorem own_of_Rb {w : World} {base : Nat} {ok : Nat → Prop} {v : Value} {l : List Int} (h : Kd.R (Kd.int .u8) 5 w base ok v l) : w.ownsRow base 5 1 v l.length (byts l) := by
  obtain ⟨h0, inner, ho, hr⟩ := h
  obtain rfl := Kd.reps_encs hr
  exact ho
theorem C_of_ints {w : World} {base : Nat} {v : Value} {l : List Int} (h : w.ownsRow base 3 1 v l.length (ints l)) : ∃ A c, v = .slice A l.length c ∧ l.length ≤ c ∧ Kd.C (Kd.int .i64) w A l.length l := by
  obtain ⟨p, c, rfl⟩ := Hlp.own_slice h
  have hR : Kd.R (Kd.int .i64) 3 w base (fun _ => True) (.slice p l.length c) l := ⟨fun _ _ => trivial, encs (Value.int .i64) l, ⟨by show (encs (Value.int .i64) l).length = l.length * 1; simp [encs], h.2⟩, Kd.reps_scalar l⟩
  have := Kd.R_reads' hR
  exact ⟨p, c, rfl, this.2.1, this.2.2⟩
theorem C_of_byts {w : World} {base : Nat} {v : Value} {l : List Int} (h : w.ownsRow base 5 1 v l.length (byts l)) : ∃ A c, v = .slice A l.length c ∧ l.length ≤ c ∧ Kd.C (Kd.int .u8) w A l.length l := by
  obtain ⟨p, c, rfl⟩ := Hlp.own_slice h
  have hR : Kd.R (Kd.int .u8) 5 w base (fun _ => True) (.slice p l.length c) l := ⟨fun _ _ => trivial, encs (Value.int .u8) l, ⟨by show (encs (Value.int .u8) l).length = l.length * 1; simp [encs], h.2⟩, Kd.reps_scalar l⟩
  have := Kd.R_reads' hR
  exact ⟨p, c, rfl, this.2.1, this.2.2⟩
theorem int_app {W1 : World} {base : Nat} {v' : Value} {xs : List Int} {b : Int} (h : W1.ownsRow base 3 1 v' (xs.length + 1) (ints xs ++ [.int .i64 b])) : W1.ownsRow base 3 1 v' (xs ++ [b]).length (ints (xs ++ [b])) := by
  simpa [ints] using h
/-- Two steps: the first changes one old block, the second none of the old ones. -/
theorem grown_more {w W W' : World} {r row : Option Nat} (h : w.grownBy W r) (hg : W.grownBy W' row) (hk : ∀ k, row = some k → w.heap.size ≤ k) : w.grownBy W' r :=
  ⟨hg.os.trans h.os, hg.tape.trans h.tape, hg.output.trans h.output, Nat.le_trans h.size hg.size, fun k hlt hne => (hg.block k (Nat.lt_of_lt_of_le hlt h.size) (fun e => by have := hk k e.symm; omega)).trans (h.block k hlt hne)⟩
/-- A number, and one byte more of it. -/
def numX (x c : Int) (n : Nat) : Int := Go.bits .or .u64 x (shl .u64 (IntKind.u64.wrap (Go.bits .and .u8 c 127)) (7 * (n : Int)))
/-- The number at a place: its value, how many bytes, an error's number. -/
def numN (b : List Int) (a : Nat) : Nat → Nat → Int → Int × Nat × Int
  | 0, _, _ => (0, 0, 4)
  | m + 1, n, x => if a + n = b.length then (0, 0, 2) else if b.getD (a + n) 0 ≥ 128 then numN b a m (n + 1) (numX x (b.getD (a + n) 0) n) else
    if b.getD (a + n) 0 = 0 ∧ 1 ≤ n then (0, 0, 3) else if numX x (b.getD (a + n) 0) n ≥ 4294967296 then (0, 0, 4) else (numX x (b.getD (a + n) 0) n % 4294967296, n + 1, 0)
def numP (b : List Int) (a : Nat) : Int × Nat × Int := numN b a 5 0 0
def enc3 (r : Int × Nat × Int) : Int × Int × Int := (r.1, (r.2.1 : Int), r.2.2)
theorem num_l0 (b : List Int) (hb : b.length ≤ 1000000000) (a : Nat) : ∀ m n x, n + m = 5 → a + n ≤ b.length → Ev (fun k => cert_Number.l0 k b (a : Int) (n : Int) x) (enc3 (numN b a m n x)) := by
  intro m
  induction m with
  | zero =>
    intro n x hn ha
    refine Ev.step (fun k => by rw [cert_Number.l0]) ?_
    exact ev_pos (by omega) (Ev.now _)
  | succ m ih =>
    intro n x hn ha
    have w1 : wrap64 ((a : Int) + n) = ((a + n : Nat) : Int) := by rw [wrap64_in (by omega) (by omega)]; omega
    have w2 : wrap64 (7 * (n : Int)) = 7 * (n : Int) := wrap64_in (by omega) (by omega)
    have w3 : wrap64 ((n : Int) + 1) = ((n + 1 : Nat) : Int) := by rw [wrap64_in (by omega) (by omega)]; omega
    have w4 : rd b ((a + n : Nat) : Int) = b.getD (a + n) 0 := by unfold rd; rw [Int.toNat_natCast]
    refine Ev.step (fun k => by rw [cert_Number.l0]) ?_
    refine ev_neg (by omega) ?_
    rw [w1, w2, w3, w4]
    by_cases h1 : a + n = b.length
    · rw [show numN b a (m + 1) n x = (0, 0, 2) by rw [numN, if_pos h1]]
      exact ev_pos (by omega) (Ev.now _)
    refine ev_neg (by omega) ?_
    refine ev_pos (by omega) (ev_pos (by omega) (ev_pos (by omega) ?_))
    by_cases h2 : b.getD (a + n) 0 ≥ 128
    · rw [show numN b a (m + 1) n x = numN b a m (n + 1) (numX x (b.getD (a + n) 0) n) by rw [numN, if_neg h1, if_pos h2]]
      exact ev_pos h2 (ih (n + 1) _ (by omega) (by omega))
    refine ev_neg h2 ?_
    by_cases h3 : b.getD (a + n) 0 = 0 ∧ 1 ≤ n
    · rw [show numN b a (m + 1) n x = (0, 0, 3) by rw [numN, if_neg h1, if_neg h2, if_pos h3]]
      refine ev_pos h3.1 (Ev.step (fun k => by rw [cert_Number.j2]) ?_)
      exact ev_pos (decide_eq_true (by have := h3.2; omega)) (Ev.now _)
    have fin : ∀ y : Bool, y = false → Ev (fun k => cert_Number.j2 k ((n + 1 : Nat) : Int) (numX x (b.getD (a + n) 0) n) y) (enc3 (numN b a (m + 1) n x)) := by
      intro y hy
      refine Ev.step (fun k => by rw [cert_Number.j2]) ?_
      refine ev_neg (by rw [hy]; decide) ?_
      by_cases h5 : numX x (b.getD (a + n) 0) n ≥ 4294967296
      · rw [show numN b a (m + 1) n x = (0, 0, 4) by rw [numN, if_neg h1, if_neg h2, if_neg h3, if_pos h5]]
        exact ev_pos h5 (Ev.now _)
      · rw [show numN b a (m + 1) n x = (numX x (b.getD (a + n) 0) n % 4294967296, n + 1, 0) by rw [numN, if_neg h1, if_neg h2, if_neg h3, if_neg h5]]
        exact ev_neg h5 (Ev.now _)
    by_cases h4 : b.getD (a + n) 0 = 0
    · exact ev_pos h4 (fin _ (decide_eq_false (by omega)))
    · exact ev_neg h4 (fin _ rfl)
theorem num_ev (b : List Int) (hb : b.length ≤ 1000000000) (a : Nat) (ha : a ≤ b.length) : Ev (fun k => cert_Number.f k b (a : Int)) (enc3 (numP b a)) := by
  unfold cert_Number.f
  refine ev_neg (by omega) ?_
  rw [decide_eq_false (show ¬ ((a : Int) > (b.length : Int)) by omega)]
  refine Ev.step (fun k => by rw [cert_Number.j0]) ?_
  exact ev_neg (by decide) (num_l0 b hb a 5 0 0 rfl (by omega))
theorem num_in (b : List Int) (a : Nat) : ∀ m n x, n + m = 5 → a + n ≤ b.length → 0 ≤ (numN b a m n x).1 ∧ (numN b a m n x).1 < 4294967296 ∧ (numN b a m n x).2.1 ≤ 5 ∧ a + (numN b a m n x).2.1 ≤ b.length ∧ 0 ≤ (numN b a m n x).2.2 ∧ (numN b a m n x).2.2 ≤ 4 := by
  intro m
  induction m with
  | zero => intro n x hn ha; rw [numN]; simp; omega
  | succ m ih =>
    intro n x hn ha
    rw [numN]
    by_cases h1 : a + n = b.length
    · rw [if_pos h1]; simp; omega
    rw [if_neg h1]
    by_cases h2 : b.getD (a + n) 0 ≥ 128
    · rw [if_pos h2]; exact ih (n + 1) _ (by omega) (by omega)
    rw [if_neg h2]
    split
    · simp; omega
    · split
      · simp; omega
      · refine ⟨?_, ?_, ?_, ?_, ?_, ?_⟩ <;> dsimp only <;> omega
/-- A reader: its place, the place of its first error, and that error. -/
structure RS where
  a : Nat
  f : Int
  e : Int
def failP (s : RS) (at_ e : Int) : RS := if s.e = 0 then ⟨s.a, at_, e⟩ else s
theorem failP_a (s : RS) (a e : Int) : (failP s a e).a = s.a := by unfold failP; split <;> rfl
theorem failP_e (s : RS) (a e : Int) (h : e ≠ 0) : (failP s a e).e ≠ 0 := by
  unfold failP
  split
  · exact h
  · assumption
def nextP (b : List Int) (most : Int) (s : RS) : Int × RS :=
  if s.e ≠ 0 then (0, s) else if (numP b s.a).2.2 ≠ 0 then (0, ⟨s.a, s.a, (numP b s.a).2.2⟩) else
  if (numP b s.a).1 > most then (0, ⟨s.a, s.a, 4⟩) else ((numP b s.a).1, ⟨s.a + (numP b s.a).2.1, s.f, 0⟩)
theorem nextP_in (b : List Int) (most : Int) (hm : 0 ≤ most) (s : RS) (hs : s.a ≤ b.length) : (nextP b most s).2.a ≤ b.length ∧ 0 ≤ (nextP b most s).1 ∧ (nextP b most s).1 ≤ most ∧ s.a ≤ (nextP b most s).2.a := by
  have h := num_in b s.a 5 0 0 rfl (by omega)
  unfold nextP
  change 0 ≤ (numP b s.a).1 ∧ (numP b s.a).1 < 4294967296 ∧ (numP b s.a).2.1 ≤ 5 ∧ s.a + (numP b s.a).2.1 ≤ b.length ∧ _ at h
  split
  · exact ⟨hs, Int.le_refl _, hm, Nat.le_refl _⟩
  · split
    · exact ⟨hs, Int.le_refl _, hm, Nat.le_refl _⟩
    · split
      · exact ⟨hs, Int.le_refl _, hm, Nat.le_refl _⟩
      · refine ⟨h.2.2.2.1, h.1, ?_, Nat.le_add_right _ _⟩
        dsimp only; omega
/-- A reader's block. -/
def RD (w0 W : World) (q : Nat) (b : List Int) (s : RS) : Prop :=
  ∃ A c, W.heap[q]? = some (.cells #[.slice A b.length c, .int .i64 s.a, .int .i64 s.f, .int .i64 s.e] 103 (0, 0)) ∧ w0.heap.size ≤ q ∧ b.length ≤ c ∧ Kd.C (Kd.int .u8) w0 A b.length b ∧ Below w0.heap.size w0 W
theorem RD.blk {w0 W : World} {q : Nat} {b : List Int} {s : RS} (h : RD w0 W q b s) : ∃ A c, W.heap[q]? = some (.cells #[.slice A b.length c, .int .i64 s.a, .int .i64 s.f, .int .i64 s.e] 103 (0, 0)) := by
  obtain ⟨A, c, k, _⟩ := h
  exact ⟨A, c, k⟩
theorem RD.grown {w0 W W' : World} {q : Nat} {b : List Int} {s : RS} {row : Option Nat} (h : RD w0 W q b s) (hg : W.grownBy W' row) (h1 : some q ≠ row) (h2 : ∀ k, row = some k → w0.heap.size ≤ k) : RD w0 W' q b s := by
  obtain ⟨A, c, k1, k2, k3, k4, k5⟩ := h
  exact ⟨A, c, blk_grown k1 hg h1, k2, k3, k4, k5.grown hg k5.size h2⟩
theorem RD.below {w0 W W' : World} {q : Nat} {b : List Int} {s : RS} (h : RD w0 W q b s) (hb : Below W.heap.size W W') : RD w0 W' q b s := h.grown (grown_of_below hb none) (by simp) (by simp)
theorem grown_drewN (w : World) (m : Nat) (row : Option Nat) : w.grownBy (w.drewN m) row := ⟨rfl, rfl, rfl, Nat.le_refl _, fun _ _ _ => rfl⟩
set_option maxHeartbeats 1000000 in
set_option maxRecDepth 100000 in
theorem fail_calls {w0 w : World} {q : Nat} {b : List Int} {s : RS} (h : RD w0 w q b s) (a e : Int) : Calls Try.prog 68 #[.pointer (some ⟨q, 0, none⟩), .int .i64 a, .int .i64 e] w fun r w' => r = .returned (.tuple #[]) ∧ RD w0 w' q b (failP s a e) ∧ w.grownBy w' (some q) := by
  obtain ⟨A, c, k1, k2, k3, k4, k5⟩ := id h
  have z2 := cell_far k1 2 _ rfl
  have z3 := cell_far k1 3 _ rfl
  have f2 := blk_frozen k1 2
  have f3 := blk_frozen k1 3
  unfold failP
  by_cases he : s.e = 0
  · rw [if_pos he]
    go_enter Try.func68, Try.ntmps68
    go_wp2
    go_end0
    have hg := (grown_set w q 2 (.int .i64 a)).trans (grown_set (w.setCell ⟨q, 2, none⟩ (.int .i64 a)) q 3 (.int .i64 e))
    refine ⟨rfl, ⟨A, c, ?_, k2, k3, k4, k5.grown hg k5.size (fun k hk => by have := Option.some.inj hk; omega)⟩, hg⟩
    simpa using blk_set (blk_set k1 2 (.int .i64 a)) 3 (.int .i64 e)
  · rw [if_neg he]
    go_enter Try.func68, Try.ntmps68
    go_wp2
    go_end0
    exact ⟨rfl, h, grown_drewN w 0 _⟩
theorem RD.set1 {w0 W : World} {q : Nat} {b : List Int} {s : RS} (h : RD w0 W q b s) (a : Nat) : RD w0 (W.setCell ⟨q, 1, none⟩ (.int .i64 (a : Int))) q b ⟨a, s.f, s.e⟩ ∧ W.grownBy (W.setCell ⟨q, 1, none⟩ (.int .i64 (a : Int))) (some q) := by
  obtain ⟨A, c, k1, k2, k3, k4, k5⟩ := h
  have hg := grown_set W q 1 (.int .i64 (a : Int))
  refine ⟨⟨A, c, ?_, k2, k3, k4, k5.grown hg k5.size (fun k hk => by have := Option.some.inj hk; omega)⟩, hg⟩
  simpa using blk_set k1 1 (.int .i64 (a : Int))
theorem RD.at_num {w0 W : World} {q : Nat} {b : List Int} {s : RS} (h : RD w0 W q b s) (hb : b.length ≤ 1000000000) (ha : s.a ≤ b.length) : ∃ A c, W.heap[q]? = some (.cells #[.slice A b.length c, .int .i64 s.a, .int .i64 s.f, .int .i64 s.e] 103 (0, 0)) ∧ ∀ W', Below W.heap.size W W' → Calls Try.prog 58 #[.slice A b.length c, .int .i64 s.a] W' fun e w' => e = .returned (.tuple #[.int .u32 (numP b s.a).1, .int .i64 ((numP b s.a).2.1 : Int), .int .i64 (numP b s.a).2.2]) ∧ Below W'.heap.size W' w' := by
  obtain ⟨A, c, k1, k2, k3, k4, k5⟩ := h
  obtain ⟨k, hk⟩ := (num_ev b hb s.a ha).rounds
  refine ⟨A, c, k1, fun W' hg => ?_⟩
  exact (cert_Number.calls k A c b (s.a : Int) _ _ _ W' (Kd.C_below k4 (k5.trans (hg.mono k5.size))) k3 hk).mono fun e w' ⟨h1, h2⟩ => ⟨h1, h2.below⟩
set_option maxHeartbeats 2000000 in
set_option maxRecDepth 100000 in
theorem next_calls {w0 w : World} {q : Nat} {b : List Int} {s : RS} (h : RD w0 w q b s) (most : Int) (hb : b.length ≤ 1000000000) (ha : s.a ≤ b.length) : Calls Try.prog 66 #[.pointer (some ⟨q, 0, none⟩), .int .u32 most] w fun r w' => r = .returned (.int .i64 (nextP b most s).1) ∧ RD w0 w' q b (nextP b most s).2 ∧ w.grownBy w' (some q) := by
  obtain ⟨A, c, k1, hnum⟩ := h.at_num hb ha
  have z0 := cell_far k1 0 _ rfl
  have z1 := cell_far k1 1 _ rfl
  have z3 := cell_far k1 3 _ rfl
  have hni := num_in b s.a 5 0 0 rfl (by omega)
  change 0 ≤ (numP b s.a).1 ∧ (numP b s.a).1 < 4294967296 ∧ (numP b s.a).2.1 ≤ 5 ∧ s.a + (numP b s.a).2.1 ≤ b.length ∧ _ at hni
  unfold nextP
  by_cases he : s.e = 0
  case neg =>
    rw [if_pos he]
    clear hni hnum
    go_enter Try.func66, Try.ntmps66
    go_wp2
    go_ret
    exact ⟨rfl, h, grown_drewN w 0 _⟩
  rw [if_neg (fun h => h he)]
  obtain ⟨v, n, e, hN⟩ : ∃ v n e, numP b s.a = (v, n, e) := ⟨_, _, _, rfl⟩
  rw [hN] at hnum hni ⊢
  dsimp only at hnum hni ⊢
  clear hN
  by_cases h1 : e = 0
  case neg =>
    rw [if_pos h1]
    go_enter Try.func66, Try.ntmps66
    go_wp2_with fail
    have g0 := GW.cell z0
    have g1 := GW.cell z1
    refine wp_region_grown (by kernel_rfl) (by kernel_rfl) ?_
    repeat (first | go_big_quiet_step (first | (go_at_call 58; exact Hlp.Calls.grown _ (hnum _ (Subtype.property _)))) | quiet_step (fail))
    refine wpQuiet_nil ?_
    rintro W8 ⟨⟨W, hW8⟩, rfl⟩
    clear g0 g1
    have hR8 := h.below hW8
    have k8 := blk_below k1 hW8
    have y1 := cell_far k8 1 _ rfl
    have hG8 := grown_of_below hW8 (some q)
    have f1 := blk_frozen k8 1
    go_wp2_with (first
      | (go_at_call 68; with_reducible refine (fail_calls hR8 (s.a : Int) e).mono ?_; rintro e2 w2 ⟨rfl, hR2, hG2⟩))
    go_ret
    exact ⟨rfl, by unfold failP at hR2; rw [if_pos he] at hR2; exact hR2, hG8.trans hG2⟩
  rw [if_neg (fun h => h h1)]
  subst h1
  by_cases h2 : v > most
  · rw [if_pos h2]
    go_enter Try.func66, Try.ntmps66
    go_wp2_with fail
    have g0 := GW.cell z0
    have g1 := GW.cell z1
    refine wp_region_grown (by kernel_rfl) (by kernel_rfl) ?_
    repeat (first | go_big_quiet_step (first | (go_at_call 58; exact Hlp.Calls.grown _ (hnum _ (Subtype.property _)))) | quiet_step (fail))
    refine wpQuiet_nil ?_
    rintro W8 ⟨⟨W, hW8⟩, rfl⟩
    clear g0 g1
    have hR8 := h.below hW8
    have k8 := blk_below k1 hW8
    have y1 := cell_far k8 1 _ rfl
    have hG8 := grown_of_below hW8 (some q)
    have f1 := blk_frozen k8 1
    go_wp2_with (first
      | (go_at_call 68; with_reducible refine (fail_calls hR8 (s.a : Int) 4).mono ?_; rintro e2 w2 ⟨rfl, hR2, hG2⟩))
    go_ret
    exact ⟨rfl, by unfold failP at hR2; rw [if_pos he] at hR2; exact hR2, hG8.trans hG2⟩
  · rw [if_neg h2]
    go_enter Try.func66, Try.ntmps66
    go_wp2_with fail
    have g0 := GW.cell z0
    have g1 := GW.cell z1
    refine wp_region_grown (by kernel_rfl) (by kernel_rfl) ?_
    repeat (first | go_big_quiet_step (first | (go_at_call 58; exact Hlp.Calls.grown _ (hnum _ (Subtype.property _)))) | quiet_step (fail))
    refine wpQuiet_nil ?_
    rintro W8 ⟨⟨W, hW8⟩, rfl⟩
    clear g0 g1
    have hR8 := h.below hW8
    have k8 := blk_below k1 hW8
    have y1 := cell_far k8 1 _ rfl
    have hG8 := grown_of_below hW8 (some q)
    have f1 := blk_frozen k8 1
    go_wp2
    go_ret
    have hS := hR8.set1 (s.a + n)
    rw [he, show ((s.a + n : Nat) : Int) = (s.a : Int) + (n : Int) by omega] at hS
    exact ⟨rfl, hS.1, hG8.trans hS.2⟩
end Go.Proofs.Ytcebjhbphcoboaa.Crt
