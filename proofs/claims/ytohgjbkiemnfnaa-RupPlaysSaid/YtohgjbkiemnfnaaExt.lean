/- Two events that the printed words lack: '[]byte(s)', and '[]byte("..")' of a text that is written out: a row that is read alone (it bears a conversion's mark). -/
import Derived.Test.YtohgjbkiemnfnaaWa
import Derived.Test.YtohgjbkiemnfnaaWb
import Derived.Lib.ConvBytes
namespace Go.Proofs.Ytohgjbkiemnfnaa.Lab
open Go Go.RowKit Go.Proofs.YtohgjbkiemnfnaaW.PrintWords

section
variable {P : Program} {ops : Array Oper} {Q : Exit → Act → World → Prop} {rest : List Oper} {a : Act} {W : World} {o : Oper} {src dst e : TypeId} {x : Operand} {N : Tmp}

theorem exec_convert (ho : o.op = .convert src dst x) (v v2 : Value) (hx : a.eval x = v) (w1 : World) (h : (convert src dst v).run P W = .ok v2 w1) :
    (execOp a.eval o).run P W = .ok (.value v2) w1 := by
  unfold execOp
  rw [ho]
  simp only [hx, Sem.run_bind, h, Result.andThen_ok]
  rfl

theorem bytes_event {s : ByteArray} (hgd : o.guard = none) (_hN : o.dst = some N) (ho : o.op = .convert src dst x) (hx : a.eval x = .string s)
    (hs : P.underlying src = some .string) (ht : P.underlying dst = some (.slice e)) (he : P.underlying e = some (.int .u8)) (hsz : s.size ≤ 9223372036854775807)
    (h : ∀ A c w2, (Kd.int .u8).C w2 A (bytesOf s).length (bytesOf s) → (bytesOf s).length ≤ c → Below W.heap.size W w2 → wpList P ops Q rest (a.put o.dst (.slice A (bytesOf s).length c)) w2) :
    wpList P ops Q (o :: rest) a W := by
  refine Kd.event_run hgd (exec_convert ho _ _ hx _ (print_bytes src dst e hs ht he s W)) ?_
  have h2 := h (some ⟨W.heap.size, 0, none⟩) (grownCap W s.size 0 e) (Lib.bytesWorld W e s)
  rw [bytesOf_length] at h2
  exact h2 (Kd.C_of_reads (d := (0 : Int)) (h1 := fun _ => rfl) (bytes_reads W e s hsz)) (grownCap_ge W s.size 0 e) (bytes_below (Below.refl _ _) (Nat.le_refl _) e s)

/-- The world behind a literal's conversion. -/
def litWorld (W : World) (e : TypeId) (cs : Array Value) : World := (W.alloc (.cells cs e)).freeze ⟨W.heap.size, cs.size, none⟩ 1
theorem lit_size (W : World) (e : TypeId) (cs : Array Value) : (litWorld W e cs).heap.size = W.heap.size + 1 := by
  simp [litWorld, World.freeze, World.alloc, -World.alloc_eq]
theorem lit_old (W : World) (e : TypeId) (cs : Array Value) (j : Nat) (hj : j < W.heap.size) : (litWorld W e cs).heap[j]? = W.heap[j]? := by
  have h1 : W.heap.size ≠ j := by omega
  simp [litWorld, World.freeze, World.alloc, -World.alloc_eq, Array.getElem?_modify, Array.getElem?_push, h1, Ne.symm h1]
theorem lit_new (W : World) (e : TypeId) (cs : Array Value) : (litWorld W e cs).heap[W.heap.size]? = some (.cells cs e (cs.size, cs.size + 1)) := by
  simp [litWorld, World.freeze, World.alloc, -World.alloc_eq]
  rw [Array.getElem_modify_self]
  simp
theorem run_convert_lit (src e : TypeId) (cs : Array Value) (n c : Nat) (hs : P.underlying src = some (.slice e)) (he : P.underlying e = some (.int .u8)) (W : World) :
    (convert src src (.slice (some ⟨W.heap.size, 0, none⟩) n c)).run P (W.alloc (.cells cs e)) = .ok (.slice (some ⟨W.heap.size, 0, none⟩) n c) (litWorld W e cs) := by
  have hsh : (W.alloc (.cells cs e)).shape? W.heap.size = some (e, cs.size) := by
    simp [World.shape?, World.alloc, -World.alloc_eq]
  simp [convert, run_underlying hs, run_underlying he, markStringish, hsh, litWorld, Result.andThen]

/-- The cells of numbers that are written out. -/
theorem lit_event {xs : List Int} {cs : Array Value} (hgd : o.guard = none) (_hN : o.dst = some N) (ho : o.op = .convert src src x) (hx : a.eval x = .slice (some ⟨W.heap.size, 0, none⟩) xs.length xs.length)
    (hs : P.underlying src = some (.slice e)) (he : P.underlying e = some (.int .u8)) (hcs : cs.toList = xs.map (Value.int .u8)) (hsz : xs.length ≤ 9223372036854775807)
    (h : ∀ A c w2, (Kd.int .u8).C w2 A xs.length xs → xs.length ≤ c → Below W.heap.size W w2 → wpList P ops Q rest (a.put o.dst (.slice A xs.length c)) w2) :
    wpList P ops Q (o :: rest) a (W.alloc (.cells cs e)) := by
  refine Kd.event_run hgd (exec_convert ho _ _ hx _ (run_convert_lit src e cs _ _ hs he W)) ?_
  refine h (some ⟨W.heap.size, 0, none⟩) xs.length (litWorld W e cs) (Kd.C_of_reads (d := (0 : Int)) (h1 := fun _ => rfl) ⟨rfl, hsz, fun _ => ⟨_, rfl, fun j hj => ?_⟩⟩) (Nat.le_refl _) ⟨rfl, rfl, rfl, by rw [lit_size]; omega, fun k hk => lit_old W e cs k hk⟩
  rw [add_plain]
  have hl : cs.size = xs.length := by rw [← Array.length_toList, hcs, List.length_map]
  have h3 : cs[j]? = some (.int .u8 (xs.getD j 0)) := by
    rw [← Array.getElem?_toList, hcs, List.getElem?_map, List.getElem?_eq_getElem hj]
    simp [List.getD_eq_getElem?_getD, List.getElem?_eq_getElem hj]
  simp [World.cell?, lit_new, h3]
end
end Go.Proofs.Ytohgjbkiemnfnaa.Lab

/-! Short words: what the printed walks say again and again (their tactic blocks read the walk's own names: HB). -/
namespace Go.Proofs.Ytohgjbkiemnfnaa
open Go Go.RowKit Go.Proofs.YtohgjbkiemnfnaaW.PrintWords
section
/-- The block of a row's cells. -/
abbrev ob {α : Type} (A : Option Addr) (t : List α) (c : Nat) : Option Nat := (Value.slice A t.length c).ownBlock
theorem bK {R : Prop} (h : R := by intro _ hk; simp only [hk, ne_eq, not_false_eq_true, and_self]) : R := h
theorem bB {R : Prop} (h : R := by repeat (first | (with_reducible first | exact HB.out | apply below_alloc | apply pw_below_drewN | apply below_drew1) | refine below_set ?_ (Aside0.out (by assumption)) | exact HB.out)) : R := h
theorem bS {R : Prop} (h : R := by first | rfl | (simp; done) | (simp [*]; done) | (simp [bne]; done) | (unfold wrap64; simp_all; done) | (unfold wrap64; simp_all; omega)) : R := h
theorem bA {R : Prop} (h : R := by first | (with_reducible assumption) | assumption) : R := h
theorem bM {R : Prop} (h : R := by (try simp only [List.map_toArray, List.map_cons, List.map_nil]); first | done | rfl | (simp only [List.length_drop, List.length_take]; rfl)) : R := h
theorem oD {p : Prop} [Decidable p] (h : decide p = true := by first | (with_reducible assumption) | assumption) : p := of_decide_eq_true h
variable {α : Type} {d : Kd α} {e base : Nat} {ok : Nat → Prop} {xs : List α} {v u : Value} {w W0 W w1 w2 : World}
theorem aRw (h : Aside0 (d.R e w base ok v xs)) (f : d.R e w base ok v xs → d.R e w1 base ok v xs := by intro h_; (with_reducible repeat (first | apply Kd.R_alloc | apply Kd.R_drewN | apply Kd.R_drew)); exact h_) : d.R e w1 base ok v xs := f h.out
theorem aCw {A : Option Addr} {n : Nat} (h : Aside0 (d.C w A n xs)) (f : d.C w A n xs → d.C w1 A n xs := by intro h_; repeat (first | (with_reducible exact h_) | (with_reducible refine Kd.C_alloc ?_ _) | (with_reducible refine Kd.C_drewN ?_ _) | (with_reducible refine Kd.C_drew ?_) | exact h_)) : d.C w1 A n xs := f h.out
theorem aKw {g : Nat} {o : Option Obj} (h : Aside0 (w.heap[g]? = o)) (f : w.heap[g]? = o → w1.heap[g]? = o := by intro h_; (with_reducible repeat (first | refine blk_drewN ?_ _ | refine blk_drew ?_ | refine blk_alloc ?_ _)); exact h_) : w1.heap[g]? = o := f h.out
theorem aK {g : Nat} {o : Obj} (h : Aside0 (W0.heap[g]? = some o)) (hb : Below W.heap.size W w2) (f : W0.heap[g]? = some o → W.heap[g]? = some o := by intro h_; (with_reducible repeat (first | refine blk_drewN ?_ _ | refine blk_drew ?_ | refine blk_alloc ?_ _)); exact h_) : Aside0 (w2.heap[g]? = some o) := ⟨blk_below (f h.out) hb⟩
theorem aG {g t : Nat} {cells : Array Value} (h : Aside0 (d.R e w base ok v xs)) (b : Aside0 (w.heap[g]? = some (.cells cells t (0, 0)))) (ht : ∀ q, q ∈ e :: d.E → q ≠ t := by decide) (f : d.R e w base (fun k => ok k ∧ k ≠ g) v xs → d.R e w1 base (fun k => ok k ∧ k ≠ g) v xs := by intro h_; repeat (first | (with_reducible exact h_) | refine Kd.R_far ?_ (fun _ hk => hk.2) _)) : d.R e w1 base (fun k => ok k ∧ k ≠ g) v xs := f (Kd.R_types h.out b.out ht)
theorem aF {g t : Nat} {cells : Array Value} (h : Aside0 (d.R e w base ok v xs)) (b : Aside0 (w.heap[g]? = some (.cells cells t (0, 0)))) (ht : ∀ q, q ∈ e :: d.E → q ≠ t := by decide) (f : d.R e w base (fun k => ok k ∧ k ≠ g) v xs → d.R e w1 base (fun k => ok k ∧ k ≠ g) v xs := by intro h_; repeat (first | (with_reducible exact h_) | refine Kd.R_far ?_ (fun _ hk => hk.2) _)) : d.R e w1 base ok v xs := Kd.R_mono (f (Kd.R_types h.out b.out ht)) (fun _ h_ => h_.1)
theorem aS {g t : Nat} {cells : Array Value} (h : Aside0 (d.R e w base ok v xs)) (b : Aside0 (w.heap[g]? = some (.cells cells t (0, 0)))) (ht : ∀ q, q ∈ e :: d.E → q ≠ t := by decide) (f : d.R e w base (fun k => ok k ∧ k ≠ g) v xs → d.R e w1 base (fun k => ok k ∧ k ≠ g) v xs := by intro h_; (with_reducible repeat (first | apply Kd.R_alloc | apply Kd.R_drewN | apply Kd.R_drew)); repeat (first | (with_reducible exact h_) | refine Kd.R_far ?_ (fun _ hk => hk.2) _)) : d.R e w1 base ok v xs := Kd.R_mono (f (Kd.R_types h.out b.out ht)) (fun _ h_ => h_.1)
theorem aT {g t : Nat} {cells : Array Value} (h : Aside0 (d.R e w base ok v xs)) (b : Aside0 (w.heap[g]? = some (.cells cells t (0, 0)))) (ht : ∀ q, q ∈ e :: d.E → q ≠ t := by decide) (f : d.R e w base (fun k => ok k ∧ k ≠ g) v xs → d.R e w1 base (fun k => ok k ∧ k ≠ g) v xs := by intro h_; (with_reducible repeat (first | apply Kd.R_alloc | apply Kd.R_drewN | apply Kd.R_drew)); repeat (first | (with_reducible exact h_) | refine Kd.R_far ?_ (fun _ hk => hk.2) _)) : ∀ k, v.ownBlock = some k → k < w1.heap.size := Kd.R_lt (f (Kd.R_types h.out b.out ht))
theorem sW {A : Option Addr} {n : Nat} (h : d.C w A n xs) (f : d.C w A n xs → d.C w1 A n xs := by intro h_; repeat (first | exact h_ | (with_reducible refine Kd.C_alloc ?_ _) | (with_reducible refine Kd.C_drewN ?_ _) | (with_reducible refine Kd.C_drew ?_))) : d.C w1 A n xs := f h
theorem aKf {g : Nat} {o : Option Obj} (h : Aside0 (w.heap[g]? = o)) (f : w.heap[g]? = o → w1.heap[g]? = o := by intro h_; repeat (first | (with_reducible exact h_) | (with_reducible refine blk_drewN ?_ _) | (with_reducible refine blk_drew ?_) | (with_reducible refine blk_alloc ?_ _) | refine blk_far ?_ (Aside0.out (by assumption)) _)) : w1.heap[g]? = o := f h.out
theorem aB (h : Aside0 (Below w.heap.size w W0)) (hb : Below W.heap.size W w2) (f : Below w.heap.size w W0 → Below w.heap.size w W := by intro h_; repeat (first | (with_reducible first | exact h_ | apply below_alloc | apply pw_below_drewN | apply below_drew1) | refine below_set ?_ (Aside0.out (by assumption)) | exact h_)) : Aside0 (Below w.heap.size w w2) := ⟨below_step (f h.out) hb⟩
theorem aR (h : Aside0 (d.R e W0 base ok v xs)) (hb : Below W.heap.size W w2) (f : d.R e W0 base ok v xs → d.R e W base ok v xs := by intro h_; (with_reducible repeat (first | apply Kd.R_alloc | apply Kd.R_drewN | apply Kd.R_drew)); exact h_) : Aside0 (d.R e w2 base ok v xs) := ⟨Kd.R_below (f h.out) hb⟩
theorem aC {A : Option Addr} {n : Nat} (h : Aside0 (d.C W0 A n xs)) (hb : Below W.heap.size W w2) (f : d.C W0 A n xs → d.C W A n xs := by intro h_; repeat (first | (with_reducible exact h_) | (with_reducible refine Kd.C_alloc ?_ _) | (with_reducible refine Kd.C_drewN ?_ _) | (with_reducible refine Kd.C_drew ?_) | exact h_)) : Aside0 (d.C w2 A n xs) := ⟨Kd.C_below (f h.out) hb⟩
theorem aL (ho : d.R e w1 W.heap.size ok v xs) (h : Aside0 (Below w.heap.size w W0)) (f : Below w.heap.size w W0 → Below w.heap.size w W := by intro h_; repeat (first | (with_reducible first | exact h_ | apply below_alloc | apply pw_below_drewN | apply below_drew1) | refine below_set ?_ (Aside0.out (by assumption)) | exact h_)) : Aside0 (d.R e w1 w.heap.size ok v xs) := ⟨Kd.R_lower ho (below_size (f h.out))⟩
theorem aE {β : Type} {d2 : Kd β} {ys : List β} {e2 : Nat} {ok2 : Nat → Prop} (h : Aside0 (d.R e W0 base ok u xs)) (ho : d2.R e2 w1 W.heap.size ok2 v ys) (hb : Below W.heap.size W w2) (f : d.R e W0 base ok u xs → d.R e W base ok u xs := by intro h_; (with_reducible repeat (first | apply Kd.R_alloc | apply Kd.R_drewN | apply Kd.R_drew)); exact h_) : Aside0 (d.R e w2 base (fun k => ok k ∧ some k ≠ v.ownBlock) u xs) := ⟨Kd.R_elder' (f h.out) (Kd.R_base ho) hb⟩
theorem aN {β : Type} {d2 : Kd β} {ys : List β} {e2 base2 : Nat} {ok2 : Nat → Prop} {W1 : World} (ho : d.R e w1 W.heap.size ok v xs) (hu : Aside0 (d2.R e2 W1 base2 ok2 u ys)) (h : Aside0 (Below w.heap.size w W0)) (g : d2.R e2 W1 base2 ok2 u ys → d2.R e2 W base2 ok2 u ys := by intro h_; (with_reducible repeat (first | apply Kd.R_alloc | apply Kd.R_drewN | apply Kd.R_drew)); exact h_) (f : Below w.heap.size w W0 → Below w.heap.size w W := by intro h_; repeat (first | (with_reducible first | exact h_ | apply below_alloc | apply pw_below_drewN | apply below_drew1) | refine below_set ?_ (Aside0.out (by assumption)) | exact h_)) : Aside0 (d.R e w1 w.heap.size (fun k => ok k ∧ some k ≠ u.ownBlock) v xs) := ⟨Kd.R_lower (Kd.R_new' ho (Kd.R_lt (g hu.out))) (below_size (f h.out))⟩
end
section
open Go.Proofs.YtohgjbkiemnfnaaW.PrintLast Go.Proofs.YtohgjbkiemnfnaaW.PrintMore
variable {P : Program} {ops : Array Oper} {Q : Exit → Act → World → Prop} {md : Region.Mode} {S : World → Prop} {ds : List Nat} {oi : Oper} {v : Value} {fuel : Nat} {l l' : Array Bool} {a a' : Act} {w : World}
theorem pV (i n : Nat) (hi : ops[i]? = some oi) (hN : oi.dst = some n) (h : wpAnyLast P md ops Q S ds fuel l' a' w)
    (hl : l.setIfInBounds i true = l' := by simp only [List.setIfInBounds_toArray, List.set_cons_zero, List.set_cons_succ]; rfl)
    (hc : anyB md ops l l' i = true := by exact any_of HT_.out (by kernel_rfl)) (hQ : ∀ c a w, Q (.panic c) (a.put oi.dst v) w → Q (.panic c) a w := by exact fun _ _ _ h => h)
    (hy : Yields P ops oi v a := by refine Or.inl ⟨by rfl, ?_⟩; intro w'; go_simp; with_reducible rfl)
    (ha : a.put (some n) v = a' := by simp only [Act.put, List.setIfInBounds_toArray, List.set_cons_zero, List.set_cons_succ, i64_w, i32_w]; rfl) : wpAnyLast P md ops Q S ds (fuel + 1) l a w :=
  let _ := hl; pure_ l' hi hN hc hQ hy ha h
theorem pU (i n : Nat) (hi : ops[i]? = some oi) (hN : oi.dst = some n) (h : wpAnyLast P md ops Q S ds fuel l' a' w)
    (hl : l.setIfInBounds i true = l' := by simp only [List.setIfInBounds_toArray, List.set_cons_zero, List.set_cons_succ]; rfl)
    (hc : anyB md ops l l' i = true := by exact any_of HT_.out (by kernel_rfl)) (hQ : ∀ c a w, Q (.panic c) (a.put oi.dst undef) w → Q (.panic c) a w := by exact fun _ _ _ h => h)
    (hy : Yields P ops oi undef a := by exact Or.inr ⟨by rfl, rfl⟩)
    (ha : a.put (some n) undef = a' := by simp only [Act.put, List.setIfInBounds_toArray, List.set_cons_zero, List.set_cons_succ, i64_w, i32_w]; rfl) : wpAnyLast P md ops Q S ds (fuel + 1) l a w :=
  let _ := hl; pure_ l' hi hN hc hQ hy ha h
theorem tV (i n : Nat) (hi : ops[i]? = some oi) (hN : oi.dst = some n) (h : wpAnyLast P md ops Q S ds fuel l' a' w)
    (hl : l.setIfInBounds i true = l' := by simp only [List.setIfInBounds_toArray, List.set_cons_zero, List.set_cons_succ]; rfl)
    (hc : takeB md ops ds l l' i = true := by exact take_ofW HT_.out HW_.out (by kernel_rfl)) (hQ : ∀ c a w, Q (.panic c) (a.put oi.dst v) w → Q (.panic c) a w := by exact fun _ _ _ h => h)
    (hy : YieldsIf P ops S oi v a := by refine Or.inl ⟨by rfl, ?_⟩; intro w' hs_; repeat (have hs1_ := hs_.1; replace hs_ := hs_.2); go_simp; with_reducible rfl) (hS : S w := by exact hHeld)
    (ha : a.put (some n) v = a' := by simp only [Act.put, List.setIfInBounds_toArray, List.set_cons_zero, List.set_cons_succ, i64_w, i32_w]; rfl) : wpAnyLast P md ops Q S ds (fuel + 1) l a w :=
  let _ := hl; take_ l' hi hN hc hQ hy hS ha h
end
end Go.Proofs.Ytohgjbkiemnfnaa
