/- The theory of ranks (order): assertions undone; those that were asserted. Walks by hand. -/
import Derived.Test.YtcebjhbphcoboaaQu
import Derived.Test.YtcebjhbphcoboaaXm
namespace Go.Proofs.Ytcebjhbphcoboaa.Ato
open Go Go.RowKit Go.Proofs.Ytcebjhbphcoboaa.X Go.Proofs.Ytcebjhbphcoboaa.Hlp Go.Proofs.YtcebjhbphcoboaaW.PrintWords Go.Proofs.YtcebjhbphcoboaaW.PrintLast Go.Proofs.YtcebjhbphcoboaaW.PrintMore Go.Proofs.Ytcebjhbphcoboaa.Aid Go.Proofs.Ytcebjhbphcoboaa.Clean12
attribute [local go_sem] max2_int min2_int max_two min_two
set_option linter.unusedVariables false
set_option linter.unusedSimpArgs false
/-- How many stay. -/
def unK (n : Int) (m : Nat) : Nat := (min (max n 0) (m : Int)).toNat
theorem unK_le (n : Int) (m : Nat) : unK n m ≤ m := by unfold unK; omega
set_option maxHeartbeats 2000000 in
set_option maxRecDepth 100000 in
theorem undo_calls {W0 : World} {b0 g : Nat} {l : List Int} {w : World} {base gs : Nat} {lv : Value} {L : List Int} (h : SO W0 b0 g l w base gs lv L) (n : Int) (hL : L.length ≤ 100) :
    Calls Try.prog 41 #[.pointer (some ⟨gs, 0, none⟩), .int .i64 n] w fun e w' => ∃ lv', e = .returned (.int .i64 (unK n L.length)) ∧ SO W0 b0 g l w' base gs lv' (L.take (unK n L.length)) ∧ Below base w w' ∧ KeepBut w w' gs lv.ownBlock ∧ lv'.ownBlock = lv.ownBlock := by
  obtain ⟨h1, h2, h3, h4, h5, h6⟩ := h
  obtain ⟨A, c, rfl, hc, hC⟩ := C_of_cut h6
  have c0 := cell_far h4 0 _ rfl
  have c1 := cell_far h4 1 _ rfl
  have hku := unK_le n L.length
  have hbs : gs < w.heap.size := blk_lt h4
  have fin : ∀ (k : Nat), k = unK n L.length → SO W0 b0 g l (w.setCell ⟨gs, 1, none⟩ (.slice A k k)) base gs (.slice A k k) (L.take (unK n L.length)) ∧ Below base w (w.setCell ⟨gs, 1, none⟩ (.slice A k k)) ∧ KeepBut w (w.setCell ⟨gs, 1, none⟩ (.slice A k k)) gs (Value.slice A L.length c).ownBlock ∧ (Value.slice A k k).ownBlock = (Value.slice A L.length c).ownBlock := by
    intro k hk
    subst hk
    have hg := grown_set w gs 1 (.slice A (unK n L.length) (unK n L.length))
    have hb : ∀ B (V : World), B ≤ base → Below B V w → Below B V (w.setCell ⟨gs, 1, none⟩ (.slice A (unK n L.length) (unK n L.length))) := fun B V hBb hb => hb.grown hg (by omega) (by rintro q ⟨⟩; omega)
    obtain ⟨p', c', e1, _, hcr⟩ := h6.cut (by decide) (unK n L.length) hku
    obtain ⟨rfl, _, rfl⟩ := Value.slice.inj e1
    have hne := cut_ne h6 h4 (by simp)
    refine ⟨⟨h1, hb _ _ h3 h2, h3, by simpa using blk_set h4 1 (.slice A (unK n L.length) (unK n L.length)), h5, ?_⟩, hb _ _ (Nat.le_refl _) (Below.refl _ _), ⟨by simp, fun i hi hig hio => ?_⟩, ?_⟩
    · have e2 : ((ints L).take (unK n L.length * 1)) = ints (L.take (unK n L.length)) := by rw [Nat.mul_one]; unfold ints; rw [List.map_take]
      rw [e2] at hcr
      have e3 : (L.take (unK n L.length)).length = unK n L.length := by rw [List.length_take]; omega
      rw [e3]
      refine hcr.kept hg (.inr ?_)
      cases A with
      | none => intro e; cases e
      | some a => exact hne.symm
    · rw [Below.heap_setCell _ _ _ _ (show i ≠ gs from hig)]
    · cases A <;> rfl
  have f1 := blk_frozen h4 1
  by_cases hn0 : n < 0
  · have HK := Aside0.mk (show 0 = unK n L.length by unfold unK; omega)
    have HZ := Aside0.mk (show (0 : Int) = ((unK n L.length : Nat) : Int) by have := HK.out; omega)
    clear hku
    go_enter Try.func41, Try.ntmps41
    go_wp2
    go_ret
    first | exact ⟨_, congrArg Ending.returned (congrArg (Value.int .i64) HZ.out), fin _ HK.out⟩ | exact ⟨congrArg Ending.returned (congrArg (Value.int .i64) HZ.out), _, fin _ HK.out⟩
  by_cases hn1 : (L.length : Int) < n
  · have HK := Aside0.mk (show L.length = unK n L.length by unfold unK; omega)
    have HZ := Aside0.mk (show (L.length : Int) = ((unK n L.length : Nat) : Int) by have := HK.out; omega)
    clear hku
    go_enter Try.func41, Try.ntmps41
    go_wp2
    go_ret
    first | exact ⟨_, congrArg Ending.returned (congrArg (Value.int .i64) HZ.out), fin _ HK.out⟩ | exact ⟨congrArg Ending.returned (congrArg (Value.int .i64) HZ.out), _, fin _ HK.out⟩
  · have HK := Aside0.mk (show n.toNat = unK n L.length by unfold unK; omega)
    have HZ := Aside0.mk (show n = ((unK n L.length : Nat) : Int) by have := HK.out; omega)
    clear hku
    go_enter Try.func41, Try.ntmps41
    go_wp2
    go_ret
    first | exact ⟨_, congrArg Ending.returned (congrArg (Value.int .i64) HZ.out), fin _ HK.out⟩ | exact ⟨congrArg Ending.returned (congrArg (Value.int .i64) HZ.out), _, fin _ HK.out⟩
theorem asserted_calls {W0 : World} {b0 g : Nat} {l : List Int} {w : World} {base gs : Nat} {lv : Value} {L : List Int} (h : SO W0 b0 g l w base gs lv L) (hL : L.length ≤ 100) :
    Calls Try.prog 45 #[.pointer (some ⟨gs, 0, none⟩)] w fun e w' => ∃ v, e = .returned v ∧ w'.ownsRow w.heap.size 3 1 v L.length (ints L) ∧ Below w.heap.size w w' := by
  obtain ⟨h1, h2, h3, h4, h5, h6⟩ := h
  obtain ⟨A, c, rfl, hc, hC⟩ := C_of_cut h6
  have c1 := cell_far h4 1 _ rfl
  have hclone := slices_Clone_int_int.calls A c L L w hC hc (by unfold slices_Clone_int_int.f; rw [if_pos (by omega)])
  go_enter Try.func45, Try.ntmps45
  go_wp2_with (first
    | (go_at_call 74; with_reducible refine hclone.mono ?_; rintro e w1 ⟨v1, rfl, hR1, hB1⟩))
  go_ret
  exact ⟨_, rfl, own_of_R hR1, hB1⟩
end Go.Proofs.Ytcebjhbphcoboaa.Ato
