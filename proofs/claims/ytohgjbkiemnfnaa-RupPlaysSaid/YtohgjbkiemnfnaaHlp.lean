/- Rows of the call's own and blocks, in plain words. No program in sight. -/
import Derived.Test.YtohgjbkiemnfnaaWa
import Derived.Test.YtohgjbkiemnfnaaWb
import Derived.Maps.AppendAt
namespace Go.Proofs.Ytohgjbkiemnfnaa.Hlp
open Go Go.RowKit Go.Proofs.YtohgjbkiemnfnaaW.PrintWords
theorem own_slice {w : World} {base e n : Nat} {v : Value} {xs : List Value} (h : w.ownsRow base e 1 v n xs) : ∃ p c, v = .slice p n c := by
  rcases h.2 with ⟨rfl, rfl⟩ | ⟨b, cap, cur, rfl, _⟩
  · exact ⟨_, _, rfl⟩
  · exact ⟨_, _, rfl⟩
theorem own_type {w : World} {base e n : Nat} {v : Value} {xs : List Value} (h : w.ownsRow base e 1 v n xs) {k : Nat} (hk : v.ownBlock = some k) : ∃ cur, w.heap[k]? = some (.cells cur e (0, 0)) := by
  rcases h.2 with ⟨rfl, rfl⟩ | ⟨b, cap, cur, rfl, _, hb, _⟩
  · cases hk
  · obtain rfl : b = k := by simpa [Value.ownBlock] using hk
    exact ⟨_, hb⟩
theorem own_ne {w : World} {base e n : Nat} {v : Value} {xs : List Value} (h : w.ownsRow base e 1 v n xs) {g : Nat} {o : Obj} (hg : w.heap[g]? = some o) (ho : ∀ cs, o ≠ .cells cs e (0, 0)) : some g ≠ v.ownBlock := by
  intro hk
  obtain ⟨cur, hc⟩ := own_type h hk.symm
  rw [hg] at hc
  exact ho _ (Option.some.inj hc)
theorem cell_far {w : World} {g : Nat} {t : TypeId} {cs : Array Value} (h : w.heap[g]? = some (.cells cs t (0, 0))) (i : Nat) (v : Value) (hv : cs[i]? = some v) : w.cell? ⟨g, i, none⟩ = some v := (blk_cell h i).trans hv
theorem grown_set (w : World) (b i : Nat) (v : Value) : w.grownBy (w.setCell ⟨b, i, none⟩ v) (some b) :=
  ⟨rfl, rfl, rfl, by simp, fun k _ hk => Below.heap_setCell _ _ _ _ (by simpa using hk)⟩

theorem grown_drew (w : World) : w.grownBy w.drew none := ⟨rfl, rfl, rfl, Nat.le_refl _, fun _ _ _ => rfl⟩
theorem row_cell {w : World} {base e n : Nat} {rb cap : Nat} {xs : List Value} (h : w.ownsRow base e 1 (.slice (some ⟨rb, 0, none⟩) n cap) n xs) (j : Nat) (u : Value) (hu : xs[j]? = some u) : w.cell? ⟨rb, j, none⟩ = some u := by
  have := h.cells (g := rb) rfl j u hu
  rwa [show (⟨rb, 0, none⟩ : Addr).add j = ⟨rb, j, none⟩ by unfold Addr.add; split <;> simp_all] at this

theorem own_below {w w' : World} {base e n : Nat} {v : Value} {xs : List Value} (h : w.ownsRow base e 1 v n xs) (hb : Below w.heap.size w w') : w'.ownsRow base e 1 v n xs := h.kept (grown_of_below hb none) (by cases v.ownBlock <;> simp)
theorem own_base {w : World} {base base' e size n : Nat} {v : Value} {xs : List Value} (h : w.ownsRow base e size v n xs) (hb : base' ≤ base) : w.ownsRow base' e size v n xs := by
  refine ⟨h.1, ?_⟩
  rcases h.2 with h | ⟨g, cap, cur, h1, h2, h3⟩
  · exact .inl h
  · exact .inr ⟨g, cap, cur, h1, Nat.le_trans hb h2, h3⟩
theorem addr_of {w : World} {base e n c : Nat} {p : Option Addr} {xs : List Value} (h : w.ownsRow base e 1 (.slice p n c) n xs) (hn : 0 < n) : ∃ g, p = some ⟨g, 0, none⟩ := by
  rcases h.2 with ⟨_, h⟩ | ⟨b, cap, cur, e, _⟩
  · omega
  · cases e; exact ⟨_, rfl⟩
theorem cell_below {W W' : World} {a : Addr} {v : Value} (h : W.cell? a = some v) (hb : Below W.heap.size W W') : W'.cell? a = some v :=
  (World.cell?_of_block (hb.block _ (World.block_lt_of_cell? W a h))).trans h
end Go.Proofs.Ytohgjbkiemnfnaa.Hlp
