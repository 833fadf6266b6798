/- 'append([]byte(s), x)': a fresh row of a text's bytes (a conversion's mark lies behind its end), and one byte more behind them: in its own room, or in a new row. -/
import Derived.Test.YtohgjbkiemnfnaaExt
import Derived.ArgAppend
namespace Go.Proofs.Ytohgjbkiemnfnaa.Lab
open Go Go.RowKit Go.Proofs.YtohgjbkiemnfnaaW.PrintWords

/-- A fresh row of bytes: block k, room for c, these bytes first. -/
def Raw (B : Nat) (e : TypeId) (w : World) (k c : Nat) (xs : List Int) : Prop :=
  B ≤ k ∧ xs.length ≤ c ∧ ∃ cur : Array Value, w.heap[k]? = some (.cells cur e (c, c + 1)) ∧ cur.size = c ∧ ∀ (j : Nat) (x : Int), xs[j]? = some x → cur[j]? = some (Value.int .u8 x)
theorem Raw.lower {B B' : Nat} {e : TypeId} {w : World} {k c : Nat} {xs : List Int} (h : Raw B e w k c xs) (hB : B' ≤ B) : Raw B' e w k c xs := ⟨Nat.le_trans hB h.1, h.2⟩

section
variable {P : Program} {ops : Array Oper} {Q : Exit → Act → World → Prop} {rest : List Oper} {a : Act} {W : World} {o : Oper} {src dst e : TypeId} {x : Operand} {N : Tmp}

theorem raw_event {s : ByteArray} (hgd : o.guard = none) (_hN : o.dst = some N) (ho : o.op = .convert src dst x) (hx : a.eval x = .string s)
    (hs : P.underlying src = some .string) (ht : P.underlying dst = some (.slice e)) (he : P.underlying e = some (.int .u8))
    (h : ∀ k c w2, Raw W.heap.size e w2 k c (bytesOf s) → Below W.heap.size W w2 → wpList P ops Q rest (a.put o.dst (.slice (some ⟨k, 0, none⟩) (bytesOf s).length c)) w2) :
    wpList P ops Q (o :: rest) a W := by
  refine Kd.event_run hgd (exec_convert ho _ _ hx _ (print_bytes src dst e hs ht he s W)) ?_
  have hg := grownCap_ge W s.size 0 e
  have hsz : (Lib.bytesCells W e s).size = grownCap W s.size 0 e := by
    unfold Lib.bytesCells
    rw [Array.size_append, Array.size_map, Array.size_replicate]
    show s.size + _ = _
    omega
  have h2 := h W.heap.size (grownCap W s.size 0 e) (Lib.bytesWorld W e s) ⟨Nat.le_refl _, by rw [bytesOf_length]; exact hg, Lib.bytesCells W e s, by rw [Lib.bytesWorld_at_new, hsz], hsz, fun j y hj => ?_⟩ (bytes_below (Below.refl _ _) (Nat.le_refl _) e s)
  · rw [bytesOf_length] at h2
    exact h2
  · unfold Lib.bytesCells
    have hjl : j < s.data.size := by
      have := (List.getElem?_eq_some_iff.1 hj).1
      rw [bytesOf_length] at this
      exact this
    rw [Array.getElem?_append_left (by rw [Array.size_map]; exact hjl), Array.getElem?_map]
    simp only [bytesOf, List.getElem?_map] at hj
    rw [Array.getElem?_toList] at hj
    cases hd : s.data[j]? with
    | none => rw [hd] at hj; cases hj
    | some b =>
      rw [hd] at hj
      obtain rfl := Option.some.inj hj
      rfl

theorem below_put {B : Nat} {w W : World} {p : Addr} (h : Below B w W) (hp : B ≤ p.block) (u : Value) : Below B w (W.setCell p u) :=
  h.trans ⟨rfl, rfl, rfl, by simp [World.setCell], fun j hj => Below.heap_setCell W p u j (by omega)⟩
theorem put_event {B k c : Nat} {xs : List Int} {v : Int} {s y : Operand} {t : TypeId} (HX : Raw B e W k c xs) (hB : B ≤ W.heap.size) (hgd : o.guard = none) (_hN : o.dst = some N)
    (ho : o.op = .call { callee := .builtin .append, args := #[s, y], argTypes := #[t, t] }) (hs : a.eval s = .slice (some ⟨k, 0, none⟩) xs.length c) (hy : a.eval y = .slice (some ⟨W.heap.size, 0, none⟩) 1 1)
    (ht : P.underlying t = some (.slice e)) (hinfo : (P.info? e).map (fun i => (i.zero, i.size, i.bytes)) = some (some (.int .u8 0), 1, 1)) (hsz : xs.length + 1 ≤ 140737488355328)
    (h : ∀ A c' w2, (Kd.int .u8).C w2 A (xs.length + 1) (xs ++ [v]) → xs.length + 1 ≤ c' → (∀ w0, Below B w0 W → Below B w0 w2) → wpList P ops Q rest (a.put o.dst (.slice A (xs.length + 1) c')) w2) :
    wpList P ops Q (o :: rest) a (W.alloc (.cells #[.int .u8 v] e)) := by
  obtain ⟨i, hi, hz0, hz1, hz2⟩ := info_parts hinfo
  obtain ⟨hBk, hlc, cur, hcur, hcs, hxs⟩ := HX
  have hk : k < W.heap.size := blk_lt hcur
  have hk2 : (W.alloc (.cells #[.int .u8 v] e)).heap[k]? = some (.cells cur e (c, c + 1)) := (Below.heap_alloc W _ k hk).trans hcur
  have hcell : ∀ j x, xs[j]? = some x → (W.alloc (.cells #[.int .u8 v] e)).cell? ⟨k, j, none⟩ = some (.int .u8 x) := fun j x hj => by
    unfold World.cell?; rw [hk2]; exact hxs j x hj
  have hnew : ∀ (j : Nat) u, [Value.int .u8 v][j]? = some u → (W.alloc (.cells #[.int .u8 v] e)).cell? ((⟨W.heap.size, 0, none⟩ : Addr).add j) = some u := by
    intro j u hj
    cases j with
    | zero => obtain rfl := Option.some.inj hj; rw [show (⟨W.heap.size, 0, none⟩ : Addr).add 0 = ⟨W.heap.size, 0, none⟩ from rfl, World.cell?_alloc_new]; rfl
    | succ j => cases hj
  have hone : ∀ u ∈ [Value.int .u8 v], u.oneCell' = true := fun u hu => by rw [List.mem_singleton.mp hu]; rfl
  have hcv : ∀ (w2 : World) (b : Nat), (∀ j u, (xs ++ [v])[j]? = some u → w2.cell? ⟨b, j, none⟩ = some (.int .u8 u)) → (Kd.int .u8).C w2 (some ⟨b, 0, none⟩) (xs.length + 1) (xs ++ [v]) := by
    intro w2 b hc
    refine ⟨by rw [List.length_append]; rfl, by omega, fun _ => ⟨_, rfl, fun j p hj => ⟨[.int .u8 p], rfl, rfl, fun i u hu => ?_⟩⟩⟩
    cases i with
    | succ i => cases hu
    | zero =>
      obtain rfl := Option.some.inj hu
      have := hc j p hj
      rwa [show (⟨b, 0, none⟩ : Addr).add (j * (Kd.int .u8).sz + 0) = ⟨b, j, none⟩ from by show Addr.add _ (j * 1 + 0) = _; unfold Addr.add; split <;> simp_all]
  by_cases hr : xs.length + 1 ≤ c
  · have hrun := run_append_room_cells (P := P) (W.alloc (.cells #[.int .u8 v] e)) t o.type e i ht hi k 0 xs.length c ⟨W.heap.size, 0, none⟩ 1 1 [.int .u8 v] (by rw [hz1]; rfl) hnew hone hr
      (fun j hj => by
        obtain rfl : j = 0 := by simpa using hj
        unfold World.cell?; rw [hk2]
        show (cur[0 + xs.length * i.size + 0]?).isSome = true
        rw [hz1, Array.getElem?_eq_getElem (by omega)]; rfl)
      (fun j hj => by
        obtain rfl : j = 0 := by simpa using hj
        unfold World.frozen?; rw [hk2]
        rw [hz1]
        simp
        omega)
    refine Kd.event_run hgd (v := .slice (some ⟨k, 0, none⟩) (xs.length + 1) c) (w1 := (W.alloc (.cells #[.int .u8 v] e)).setCells k (0 + xs.length * i.size) [.int .u8 v]) ?_ ?_
    · unfold execOp; simp [ho, resolve, invoke, builtin, hs, hy, hrun, Result.andThen]
    · have hw : (W.alloc (.cells #[.int .u8 v] e)).setCells k (0 + xs.length * i.size) [.int .u8 v] = (W.alloc (.cells #[.int .u8 v] e)).setCell ⟨k, xs.length, none⟩ (.int .u8 v) := by
        rw [hz1, Nat.mul_one, Nat.zero_add]; rfl
      rw [hw]
      refine h _ _ _ (hcv _ _ fun j u hj => ?_) hr fun w0 hb => ?_
      · by_cases hjn : j < xs.length
        · rw [List.getElem?_append_left hjn] at hj
          rw [World.cell?_setCell_other _ _ _ _ (by intro he; injection he with _ he; omega)]
          exact hcell j u hj
        · have hjl := (List.getElem?_eq_some_iff.1 hj).1
          rw [List.length_append, List.length_singleton] at hjl
          obtain rfl : j = xs.length := by omega
          rw [List.getElem?_append_right (Nat.le_refl _), Nat.sub_self] at hj
          obtain rfl := Option.some.inj hj
          have hold : (W.alloc (.cells #[.int .u8 v] e)).cell? ⟨k, xs.length, none⟩ = some (cur[xs.length]'(by omega)) := by
            unfold World.cell?; rw [hk2]
            show cur[xs.length]? = _
            rw [Array.getElem?_eq_getElem (by omega)]
          exact World.cell?_setCell_same _ _ _ hold
      · exact below_put (hb.alloc hB _) hBk _
  · obtain ⟨v', w', hrun, hown, hgrow⟩ := run_append_arg_grows (P := P) (W.alloc (.cells #[.int .u8 v] e)) t o.type e i (.int .u8 0) 1 1 ht hi hz0 hz1 hz2 rfl (by decide) ⟨k, 0, none⟩ xs.length c (xs.map (Value.int .u8)) (by rw [List.length_map, Nat.mul_one])
      (fun j u hj => by
        rw [List.getElem?_map] at hj
        obtain ⟨x, hx, rfl⟩ := Option.map_eq_some_iff.1 hj
        have := hcell j x hx
        rwa [show (⟨k, 0, none⟩ : Addr).add j = ⟨k, j, none⟩ from by unfold Addr.add; split <;> simp_all])
      ⟨W.heap.size, 0, none⟩ 1 1 [.int .u8 v] rfl hnew (by omega) (by unfold maxLen; omega) (by omega)
    refine Kd.event_run hgd (v := v') (w1 := w') ?_ ?_
    · unfold execOp; simp [ho, resolve, invoke, builtin, hs, hy, hrun, Result.andThen]
    · have hv : ∃ g c', v' = .slice (some ⟨g, 0, none⟩) (xs.length + 1) c' ∧ xs.length + 1 ≤ c' := by
        rcases hown.2 with ⟨_, h0⟩ | ⟨g, c', _, rfl, _, _, hle, _⟩
        · omega
        · exact ⟨g, c', rfl, hle⟩
      obtain ⟨g, c', rfl, hle⟩ := hv
      refine h _ _ _ (hcv _ _ fun j u hj => ?_) hle fun w0 hb => (hb.alloc hB _).grown hgrow (Nat.le_trans hB (by simp)) (fun k hk => by cases hk)
      have := hown.cells (g := g) rfl j (.int .u8 u) (by rw [show xs.map (Value.int .u8) ++ [.int .u8 v] = (xs ++ [v]).map (Value.int .u8) by simp, List.getElem?_map, hj]; rfl)
      rwa [show (⟨g, 0, none⟩ : Addr).add j = ⟨g, j, none⟩ from by unfold Addr.add; split <;> simp_all] at this
theorem put_event' {B k c : Nat} {xs : List Int} {v : Int} {s y : Operand} {t : TypeId} (HX : Raw B e W k c xs) (hB : B ≤ W.heap.size) (hgd : o.guard = none) (_hN : o.dst = some N)
    (ho : o.op = .call { callee := .builtin .append, args := #[s, y], argTypes := #[t, t] }) (hs : a.eval s = .slice (some ⟨k, 0, none⟩) xs.length c) (hy : a.eval y = .slice (some ⟨W.heap.size, 0, none⟩) 1 1)
    (ht : P.underlying t = some (.slice e)) (hinfo : (P.info? e).map (fun i => (i.zero, i.size, i.bytes)) = some (some (.int .u8 0), 1, 1)) (hsz : xs.length + 1 ≤ 140737488355328)
    (h : ∀ A c' w2, (Kd.int .u8).C w2 A (xs ++ [v]).length (xs ++ [v]) → (xs ++ [v]).length ≤ c' → (∀ w0, Below B w0 W → Below B w0 w2) → wpList P ops Q rest (a.put o.dst (.slice A (xs ++ [v]).length c')) w2) :
    wpList P ops Q (o :: rest) a (W.alloc (.cells #[.int .u8 v] e)) := by
  have e1 : (xs ++ [v]).length = xs.length + 1 := by rw [List.length_append]; rfl
  rw [e1] at h
  exact put_event HX hB hgd _hN ho hs hy ht hinfo hsz h
end
end Go.Proofs.Ytohgjbkiemnfnaa.Lab
