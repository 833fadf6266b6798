/- A row that the call owns, seen through a slice whose capacity may be smaller than the row's: what a cut with a capacity ('s[:n:n]') leaves; it can be appended to. No program in sight. -/
import Derived.Test.YtohgjbkiemnfnaaHlp
import Derived.Maps.AppendAt
namespace Go.Proofs.Ytohgjbkiemnfnaa.Hlp
open Go Go.RowKit
set_option linter.unusedVariables false
set_option linter.unusedSimpArgs false
/-- A value that sees the first elements of a row of the call's own. -/
def cutRow (w : World) (base : Nat) (e : TypeId) (size : Nat) (v : Value) (n : Nat) (xs : List Value) : Prop :=
  ∃ p cap cap0, v = .slice p n cap ∧ n ≤ cap ∧ cap ≤ cap0 ∧ w.ownsRow base e size (.slice p n cap0) n xs
section
variable {w : World} {base : Nat} {e : TypeId} {size : Nat} {v : Value} {n : Nat} {xs : List Value}
theorem cut_nil (w : World) (base : Nat) (e : TypeId) (size : Nat) : cutRow w base e size (.slice none 0 0) 0 [] := ⟨none, 0, 0, rfl, Nat.le_refl _, Nat.le_refl _, World.ownsRow_nil _ _ _ _⟩
theorem cut_of_own (h : w.ownsRow base e size v n xs) : cutRow w base e size v n xs := by
  rcases h.2 with ⟨rfl, rfl⟩ | ⟨g, cap, cur, rfl, hb, hg, hn, hr⟩
  · exact ⟨none, 0, 0, rfl, Nat.le_refl _, Nat.le_refl _, h⟩
  · exact ⟨_, cap, cap, rfl, hn, Nat.le_refl _, h⟩
theorem cutRow.slice (h : cutRow w base e size v n xs) : ∃ p c, v = .slice p n c := by
  obtain ⟨p, cap, _, rfl, _⟩ := h
  exact ⟨p, cap, rfl⟩
theorem cutRow.below {W : World} (h : cutRow w base e 1 v n xs) (hb : Below w.heap.size w W) : cutRow W base e 1 v n xs := by
  obtain ⟨p, cap, cap0, rfl, h1, h2, h3⟩ := h
  exact ⟨p, cap, cap0, rfl, h1, h2, own_below h3 hb⟩
theorem cutRow.lt (h : cutRow w base e size v n xs) : ∀ k, v.ownBlock = some k → base ≤ k ∧ k < w.heap.size := by
  obtain ⟨p, cap, cap0, rfl, h1, h2, h3⟩ := h
  intro k hk
  refine h3.lt k ?_
  cases p with
  | none => exact hk
  | some a => exact hk
theorem cutRow.kept {W : World} {row : Option Nat} (h : cutRow w base e size v n xs) (hg : w.grownBy W row) (hne : v.ownBlock = none ∨ v.ownBlock ≠ row) : cutRow W base e size v n xs := by
  obtain ⟨p, cap, cap0, rfl, h1, h2, h3⟩ := h
  refine ⟨p, cap, cap0, rfl, h1, h2, h3.kept hg ?_⟩
  cases p with
  | none => exact .inl rfl
  | some a => exact hne
theorem cutRow.alloc (h : cutRow w base e size v n xs) (o : Obj) : cutRow (w.alloc o) base e size v n xs := by
  obtain ⟨p, cap, cap0, rfl, h1, h2, h3⟩ := h
  exact ⟨p, cap, cap0, rfl, h1, h2, h3.alloc o⟩
theorem cut_ne {q : Nat} {o : Obj} (h : cutRow w base e 1 v n xs) (hq : w.heap[q]? = some o) (hne : ∀ cs, o ≠ .cells cs e (0, 0)) : some q ≠ v.ownBlock := by
  obtain ⟨p, cap, cap0, rfl, h1, h2, h3⟩ := h
  have := own_ne h3 hq hne
  cases p with
  | none => exact this
  | some a => exact this
/-- Cut to its first elements, the capacity likewise. -/
theorem cutRow.cut (h : cutRow w base e size v n xs) (hsz : 0 < size) (k : Nat) (hk : k ≤ n) : ∃ p c, v = .slice p n c ∧ n ≤ c ∧ cutRow w base e size (.slice p k k) k (xs.take (k * size)) := by
  obtain ⟨p, cap, cap0, rfl, h1, h2, h3⟩ := h
  refine ⟨p, cap, rfl, h1, p, k, cap0, rfl, Nat.le_refl _, by omega, ?_⟩
  obtain ⟨hl, h4⟩ := h3
  have hks : k * size ≤ n * size := Nat.mul_le_mul_right _ hk
  refine ⟨by rw [List.length_take]; omega, ?_⟩
  rcases h4 with ⟨e1, rfl⟩ | ⟨g, c, cur, e1, hb, hg, hn, hm, hs, ht⟩
  · obtain ⟨rfl, _, rfl⟩ := Value.slice.inj e1
    obtain rfl : k = 0 := by omega
    exact .inl ⟨rfl, rfl⟩
  · obtain ⟨rfl, _, rfl⟩ := Value.slice.inj e1
    refine .inr ⟨g, _, cur, rfl, hb, hg, by omega, hm, hs, ?_⟩
    rw [← ht, List.take_take]
    congr 1
    omega
end
/-- Appended to. -/
theorem run_append_cut {P : Program} (w : World) (base : Nat) (t ty e : TypeId) (i : TypeInfo) (z : Value) (size bytes : Nat) (ht : P.underlying t = some (.slice e)) (hi : P.info? e = some i) (hz : i.zero = some z)
    (hsize : i.size = size) (hby : i.bytes = bytes) (hzs : z.cells.size = size) (hsz : 0 < size)
    (v : Value) (n : Nat) (xs : List Value) (hc : cutRow w base e size v n xs)
    (a : Addr) (m c : Nat) (news : List Value) (hl : news.length = m * size) (hnews : ∀ j u, news[j]? = some u → w.cell? (a.add j) = some u) (h1 : ∀ u ∈ news, u.oneCell' = true)
    (h63 : n + m ≤ maxLen) (hbytes : (n + m) * bytes ≤ 140737488355328) (hbase : base ≤ w.heap.size) :
    ∃ v' w', (Builtin.append_ #[t, t] ty #[v, .slice (some a) m c]).run P w = .ok v' w' ∧ cutRow w' base e size v' (n + m) (xs ++ news) ∧ w.grownBy w' v.ownBlock ∧ (v'.ownBlock = v.ownBlock ∨ v'.ownBlock = some w.heap.size) := by
  obtain ⟨p, cap, cap0, rfl, hn, hcc, hown⟩ := hc
  cases p with
  | none =>
    have hcap : cap = cap0 := by
      rcases hown.2 with ⟨e1, _⟩ | ⟨g, c, cur, e1, _⟩
      · obtain ⟨_, _, rfl⟩ := Value.slice.inj e1; omega
      · obtain ⟨e2, _⟩ := Value.slice.inj e1; cases e2
    subst hcap
    obtain ⟨v', w', hr, ho, hg, _, hb⟩ := run_append_own_at (P := P) w base t ty e i z size bytes ht hi hz hsize hby hzs hsz _ n xs hown a m c news hl hnews h1 h63 hbytes hbase
    exact ⟨v', w', hr, cut_of_own ho, hg, hb⟩
  | some b =>
    obtain ⟨v0, w0, hr0, ho0, hg0, _, hb0⟩ := run_append_own_at (P := P) w base t ty e i z size bytes ht hi hz hsize hby hzs hsz _ n xs hown a m c news hl hnews h1 h63 hbytes hbase
    rcases hown.2 with ⟨e1, _⟩ | ⟨g, c0, cur, e1, hbg, hg, hnc, hcm, hcs, htake⟩
    · obtain ⟨e2, _⟩ := Value.slice.inj e1; cases e2
    obtain ⟨e2, _, rfl⟩ := Value.slice.inj e1
    obtain rfl := Option.some.inj e2
    subst hsize
    by_cases hroom : n + m ≤ cap
    · have hfit : n * i.size + news.length ≤ cur.size := by rw [hl, hcs, ← Nat.add_mul]; exact Nat.mul_le_mul_right _ (by omega)
      have hr1 := run_append_room (P := P) w t ty e i ht hi g n cap cur hg a m c news hl hnews h1 hroom hfit
      have hr2 := run_append_room (P := P) w t ty e i ht hi g n cap0 cur hg a m c news hl hnews h1 (by omega) hfit
      rw [hr2] at hr0
      obtain ⟨rfl, rfl⟩ : v0 = .slice (some ⟨g, 0, none⟩) (n + m) cap0 ∧ w0 = w.setRow g (cur.toList.take (n * i.size) ++ news ++ cur.toList.drop (n * i.size + news.length)).toArray := by
        injection hr0 with e3 e4
        exact ⟨e3.symm, e4.symm⟩
      exact ⟨_, _, hr1, ⟨_, cap, cap0, rfl, hroom, hcc, ho0⟩, hg0, .inl rfl⟩
    · have holds : ∀ j u, xs[j]? = some u → w.cell? ((⟨g, 0, none⟩ : Addr).add j) = some u := hown.cells (g := g) rfl
      have h64 : n + m ≤ 9223372036854775807 := by simp only [maxLen] at h63; omega
      have hr := run_append_grow (P := P) w t ty e i z ht hi hz ⟨g, 0, none⟩ n cap xs hown.1 holds a m c news hl hnews (by omega) (by omega) (growslice_fits (by omega) (by rw [hby]; exact hbytes))
      have hge := grownCap_ge w (n + m) cap e
      have hcm' := grownCap_le_maxLen w (n + m) cap e h63
      have hlen : (xs ++ news).length = (n + m) * i.size := by rw [List.length_append, hown.1, hl, Nat.add_mul]
      refine ⟨_, _, hr, cut_of_own ⟨hlen, .inr ⟨w.heap.size, _, _, rfl, hbase, heap_alloc_new w.drew _, hge, hcm', ?_, ?_⟩⟩, ⟨rfl, rfl, rfl, by simp, fun k hk _ => heap_alloc_old w.drew _ hk⟩, .inr rfl⟩
      · rw [Array.size_append, Array.size_append, size_zeroCells, hzs, List.size_toArray, List.size_toArray, hown.1, hl, ← Nat.add_mul, ← Nat.add_mul]
        congr 1
        omega
      · rw [Array.toList_append, Array.toList_append, ← hlen]
        exact List.take_left' rfl
theorem wpList_append_cut {P : Program} {w : World} {ops : Array Oper} {rest : List Oper} {o : Oper} {a : Act} {Q : Exit → Act → World → Prop} (hgd : o.guard = none) (s x : Operand) (t : TypeId)
    (ho : o.op = .call { callee := .builtin .append, args := #[s, x], argTypes := #[t, t] })
    (base : Nat) (e : TypeId) (i : TypeInfo) (z : Value) (size bytes : Nat) (ht : P.underlying t = some (.slice e)) (hi : P.info? e = some i) (hz : i.zero = some z)
    (hsize : i.size = size) (hby : i.bytes = bytes) (hzs : z.cells.size = size) (hsz : 0 < size)
    (v : Value) (n : Nat) (xs : List Value) (hs : a.eval s = v) (hc : cutRow w base e size v n xs)
    (ad : Addr) (m c : Nat) (news : List Value) (hx : a.eval x = .slice (some ad) m c) (hl : news.length = m * size) (hnews : ∀ j u, news[j]? = some u → w.cell? (ad.add j) = some u) (h1 : ∀ u ∈ news, u.oneCell' = true)
    (h63 : n + m ≤ maxLen) (hbytes : (n + m) * bytes ≤ 140737488355328) (hbase : base ≤ w.heap.size)
    (h : ∀ v' w', cutRow w' base e size v' (n + m) (xs ++ news) → w.grownBy w' v.ownBlock → (v'.ownBlock = v.ownBlock ∨ v'.ownBlock = some w.heap.size) → wpList P ops Q rest (a.put o.dst v') w') :
    wpList P ops Q (o :: rest) a w := by
  refine wpList_plain hgd fun K hK => ?_
  obtain ⟨v', w', hr, h2, h3, h4⟩ := run_append_cut (P := P) w base t o.type e i z size bytes ht hi hz hsize hby hzs hsz v n xs hc ad m c news hl hnews h1 h63 hbytes hbase
  unfold Oper.wp execOp
  simp only [ho, resolve, invoke, builtin, Sem.run_bind, Sem.run_pure, Result.andThen_ok, List.map_toArray, List.map_cons, List.map_nil, hs, hx, hr]
  exact hK _ _ (h v' w' h2 h3 h4)
end Go.Proofs.Ytohgjbkiemnfnaa.Hlp
