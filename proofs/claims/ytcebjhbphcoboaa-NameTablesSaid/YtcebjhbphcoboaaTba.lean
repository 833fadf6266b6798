/- What the laws on names try first: a table with two names (ferrulelaw08.awake). A walk by hand. -/
import Derived.Test.YtcebjhbphcoboaaTbo
import Derived.KernelRfl
namespace Go.Proofs.Ytcebjhbphcoboaa.Tbl
open Go Go.RowKit Go.Maps Go.Proofs.Ytcebjhbphcoboaa.X Go.Proofs.YtcebjhbphcoboaaW.PrintWords Go.Proofs.YtcebjhbphcoboaaW.PrintLast Go.Proofs.YtcebjhbphcoboaaW.PrintMore
set_option linter.unusedVariables false
set_option linter.unusedSimpArgs false
def sa : ByteArray := ⟨#[97]⟩
def sb : ByteArray := ⟨#[98]⟩
theorem good_a : name_Good.f 40 sa = some true := by kernel_rfl
theorem good_b : name_Good.f 40 sb = some true := by kernel_rfl
theorem addOf {w : World} {base g : Nat} {S : Nat → Prop} {l l' : List ByteArray} {s : ByteArray} {n m : Int} (h : Tab w base g S l) (hs : s.size ≤ maxLen) (hg : name_Good.f 40 s = some true)
    (h1 : addN l s true = n) (h2 : addE l s true = m) (h3 : addL l s true = l') :
    Calls Try.prog 17 #[.pointer (some ⟨g, 0, none⟩), .string s] w fun e w' => e = .returned (.tuple #[.int .i64 n, .int .i64 m]) ∧ Tab w' base g (fun k => S k ∨ w.heap.size ≤ k) l' ∧ Ch base S w w' := by
  subst h1 h2 h3
  exact add_calls h s hs 40 true hg

theorem ord_ba : ordL [sb, sa] = [1, 0] := by
  have h1 : ltOf (cfF [sb, sa]) ⟨1, by decide⟩ ⟨0, by decide⟩ = true := by decide
  have h2 : ordF [sb, sa] = [⟨1, by decide⟩, ⟨0, by decide⟩] := by
    unfold ordF
    rw [show List.finRange [sb, sa].length = [⟨0, by decide⟩, ⟨1, by decide⟩] from rfl, List.mergeSort]
    simp [List.MergeSort.Internal.splitInTwo, List.merge]
    exact h1
  unfold ordL
  rw [h2]
  rfl

theorem two_slice {w : World} {base e : Nat} {v : Value} {xs : List Value} (h : w.ownsRow base e 1 v 2 xs) : ∃ rb c, v = .slice (some ⟨rb, 0, none⟩) 2 c := by
  rcases h.2 with ⟨_, h⟩ | ⟨rb, cap, cur, e, _⟩
  · cases h
  · exact ⟨_, _, e⟩
set_option maxHeartbeats 1000000 in
set_option maxRecDepth 100000 in
theorem awake_calls (w : World) : Calls Try.prog 12 #[] w fun e w' => e = .returned (.bool true) ∧ Below w.heap.size w w' := by
  have hT1 := tab_new w (base := w.heap.size) (S := fun k => w.heap.size ≤ k) (Nat.le_refl _) (Nat.le_refl _)
  have hB1 : Below w.heap.size w (w.alloc (.cells #[.map none, .slice none 0 0] 36)) := (Below.refl _ _).alloc (Nat.le_refl _) _
  have c1 := addOf hT1 (s := sb) (by decide) good_b (n := 0) (m := 0) (l' := [sb]) (by decide) (by decide) (by decide)
  have c2 : ∀ w1 S, Tab w1 w.heap.size w.heap.size S [sb] → _ := fun w1 S h => addOf h (s := sa) (by decide) good_a (n := 1) (m := 0) (l' := [sb, sa]) (by decide) (by decide) (by decide)
  have c3 : ∀ w1 S, Tab w1 w.heap.size w.heap.size S [sb, sa] → _ := fun w1 S h => addOf h (s := sb) (by decide) good_b (n := 0) (m := 0) (l' := [sb, sa]) (by decide) (by decide) (by decide)
  have c4 : ∀ w1 S, Tab w1 w.heap.size w.heap.size S [sb, sa] → _ := fun w1 S h => order h
  unfold sb sa at *
  go_enter Try.func12, Try.ntmps12
  go_wp2_with (first
    | (go_at_call 17; with_reducible refine c1.mono ?_; rintro e w2 ⟨rfl, hT2, hC2⟩)
    | (go_at_call 17; with_reducible refine (c2 _ _ hT2).mono ?_; rintro e w3 ⟨rfl, hT3, hC3⟩)
    | (go_at_call 17; with_reducible refine (c3 _ _ hT3).mono ?_; rintro e w4 ⟨rfl, hT4, hC4⟩)
    | (go_at_call 23; with_reducible refine (c4 _ _ hT4).mono ?_; rintro e w5 ⟨v, rfl, hown, hB5⟩; rw [show [({ data := #[98] } : ByteArray), { data := #[97] }] = [sb, sa] from rfl, ord_ba] at hown; obtain ⟨rb, c, rfl⟩ : ∃ rb c, v = .slice (some ⟨rb, 0, none⟩) 2 c := two_slice hown; have hcell := row_cell hown 0 (.int .i64 1) rfl))
  go_ret
  exact ⟨rfl, ((((hB1.trans hC2.1).trans hC3.1).trans hC4.1).trans (hB5.mono (Nat.le_trans hC2.1.size (Nat.le_trans hC3.1.size hC4.1.size) |> Nat.le_trans hB1.size)))⟩
#print axioms awake_calls
end Go.Proofs.Ytcebjhbphcoboaa.Tbl
