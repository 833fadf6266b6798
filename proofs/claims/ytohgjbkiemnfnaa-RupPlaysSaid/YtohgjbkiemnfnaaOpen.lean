/- Arguments of any shape (whole numbers, bools, texts, slices, structs, in one another) laid open: what a row reads is a kind's value. -/
import Derived.Test.YtohgjbkiemnfnaaWa
import Derived.Deep.Slices
namespace Go.Proofs.Ytohgjbkiemnfnaa.Open
open Go Go.RowKit Go.Proofs.YtohgjbkiemnfnaaW.PrintWords Go.Deep

/-- What is read of type t (by at most so much fuel) is a value of kind d, of which V holds. -/
def Op {α : Type} (P : Program) (m : Nat) (t : TypeId) (d : Kd α) (V : α → Prop) : Prop :=
  ∀ {H : Type} (enc : TypeId × Value → H) (w : World) (base : Nat) (spare : Nat → Bool) (held : Bool) (fuel : Nat) (cs : List Value) (x : DataW H × List MemPlace),
    fuel ≤ m → DataW.trod enc P w base spare held fuel t cs = some x → ∃ a, d.K w a cs ∧ V a

section
variable {P : Program} {t : TypeId}
theorem op_int {k : IntKind} (ht : P.underlying t = some (.int k)) (m : Nat) : Op P m t (Kd.int k) (fun n => (Lit.int k n).wf = true) := by
  intro H enc w base spare held fuel cs x _ h
  obtain ⟨n, rfl, _, hw⟩ := DataW.trod_int ht h
  exact ⟨n, rfl, hw⟩
theorem op_bool (ht : P.underlying t = some .bool) (m : Nat) : Op P m t Kd.bool (fun _ => True) := by
  intro H enc w base spare held fuel cs x _ h
  obtain ⟨n, rfl, _⟩ := DataW.trod_bool ht h
  exact ⟨n, rfl, trivial⟩
theorem op_string (ht : P.underlying t = some .string) (m : Nat) : Op P m t Kd.string (fun s => s.size ≤ maxLen) := by
  intro H enc w base spare held fuel cs x _ h
  obtain ⟨s, rfl, _, hs⟩ := DataW.trod_string ht h
  exact ⟨s, rfl, hs⟩
theorem op_slice {α : Type} {e : TypeId} {d : Kd α} {V : α → Prop} (ht : P.underlying t = some (.slice e)) (hd : P.cellsOf e = d.sz) (m : Nat) (he : Op P m e d V) :
    Op P (m + 1) t (Kd.slice e d) (fun l => l.length ≤ maxLen ∧ ∀ x ∈ l, V x) := by
  intro H enc w base spare held fuel cs x hf h
  have hsl := DataW.trod_slice ht h
  rcases hsl with ⟨rfl, _⟩ | ⟨a, len, cap, elems, rest, n, rfl, rfl, rfl, hb, hl, hm, hlen, hel, _, _⟩
  · exact ⟨[], ⟨none, 0, rfl, Nat.le_refl _, rfl, by simp, fun h => by cases h⟩, by simp, by simp⟩
  · have each : ∀ i, i < len → ∃ y : α, ∃ cs', w.cells? base (a.add (i * d.sz)) d.sz = some cs' ∧ d.K w y cs' ∧ V y := by
      intro i hi
      have h1 := hel i hi
      rw [List.getElem?_eq_getElem (by omega), hd] at h1
      obtain ⟨cs', h2, h3⟩ := Option.bind_eq_some_iff.1 h1
      obtain ⟨y, h4, h5⟩ := he enc w base spare held n cs' _ (by omega) h3
      exact ⟨y, cs', h2, h4, h5⟩
    have build : ∀ k, k ≤ len → ∃ l : List α, l.length = k ∧ (∀ y ∈ l, V y) ∧ ∀ j y, l[j]? = some y → ∃ cs', w.cells? base (a.add (j * d.sz)) d.sz = some cs' ∧ d.K w y cs' := by
      intro k
      induction k with
      | zero => intro _; exact ⟨[], rfl, by simp, by simp⟩
      | succ k ih =>
        intro hk
        obtain ⟨l, h1, h2, h3⟩ := ih (by omega)
        obtain ⟨y, cs', h4, h5, h6⟩ := each k (by omega)
        refine ⟨l ++ [y], by simp [h1], ?_, ?_⟩
        · intro z hz
          rcases List.mem_append.1 hz with hz | hz
          · exact h2 z hz
          · rw [List.mem_singleton.1 hz]; exact h6
        · intro j z hz
          by_cases hj : j < k
          · rw [List.getElem?_append_left (by omega)] at hz
            exact h3 j z hz
          · have hj2 : j = k := by
              have := (List.getElem?_eq_some_iff.1 hz).1
              simp at this
              omega
            subst hj2
            rw [List.getElem?_append_right (by omega)] at hz
            simp [h1] at hz
            subst hz
            exact ⟨cs', h4, h5⟩
    obtain ⟨l, h1, h2, h3⟩ := build len (Nat.le_refl _)
    subst h1
    refine ⟨l, ⟨some a, cap, rfl, hl, rfl, by unfold maxLen at hm; omega, fun _ => ⟨a, rfl, fun j y hj => ?_⟩⟩, by omega, h2⟩
    obtain ⟨cs', h4, h5⟩ := h3 j y hj
    obtain ⟨_, hlen', hcell⟩ := World.cells?_some h4
    refine ⟨cs', hlen', h5, fun i u hi => ?_⟩
    have hi2 := (List.getElem?_eq_some_iff.1 hi).1
    have := hcell i (by omega)
    rw [Deep.add_add] at this
    rw [this]
    exact hi
end

/-- The fields from a place on. -/
def OpF {α : Type} (P : Program) (m : Nat) (fs : List Field) (off n : Nat) (d : Kd α) (V : α → Prop) : Prop :=
  ∀ {H : Type} (enc : TypeId × Value → H) (w : World) (base : Nat) (spare : Nat → Bool) (held : Bool) (fuel : Nat) (cs : List Value), fuel ≤ m → cs.length = off + n →
    (∀ f ∈ fs, ∃ x, DataW.trod enc P w base spare held fuel f.type ((cs.drop f.offset).take (P.cellsOf f.type)) = some x) → ∃ a, d.K w a (cs.drop off) ∧ V a
section
variable {P : Program} {t : TypeId}
theorem opf_one {α : Type} {m n off : Nat} {d : Kd α} {V : α → Prop} (f : Field) (ho : f.offset = off) (hn : P.cellsOf f.type = n) (h : Op P m f.type d V) : OpF P m [f] off n d V := by
  intro H enc w base spare held fuel cs hf hl hx
  obtain ⟨x, hx⟩ := hx f (by simp)
  obtain ⟨a, h1, h2⟩ := h enc w base spare held fuel _ x hf hx
  rw [ho, hn, List.take_of_length_le (by rw [List.length_drop]; omega)] at h1
  exact ⟨a, h1, h2⟩
theorem opf_cons {α β : Type} {m n k off : Nat} {d : Kd α} {d2 : Kd β} {V : α → Prop} {V2 : β → Prop} {fs : List Field} (f : Field) (ho : f.offset = off) (hn : P.cellsOf f.type = k)
    (h : Op P m f.type d V) (h2 : OpF P m fs (off + k) n d2 V2) : OpF P m (f :: fs) off (k + n) (Kd.pair d d2) (fun p => V p.1 ∧ V2 p.2) := by
  intro H enc w base spare held fuel cs hf hl hx
  obtain ⟨x, h0⟩ := hx f (by simp)
  obtain ⟨a, h3, h4⟩ := h enc w base spare held fuel _ x hf h0
  obtain ⟨b, h5, h6⟩ := h2 enc w base spare held fuel cs hf (by omega) fun g hg => hx g (by simp [hg])
  rw [ho, hn] at h3
  refine ⟨(a, b), ⟨_, _, ?_, h3, h5⟩, h4, h6⟩
  rw [← List.drop_drop, List.take_append_drop]
theorem op_struct {α β : Type} {m n : Nat} {fs : Array Field} {d : Kd α} {V : α → Prop} (f : β → α) (g : α → β) (hfg : ∀ a, f (g a) = a) (ht : P.underlying t = some (.struct fs)) (hc : P.cellsOf t = n)
    (h : OpF P m fs.toList 0 n d V) : Op P (m + 1) t (Kd.iso d f) (fun x => V (f x)) := by
  intro H enc w base spare held fuel cs x hf hx
  obtain ⟨xs, k, rfl, _, hl, hxs, hel⟩ := DataW.trod_struct ht hx
  obtain ⟨a, h1, h2⟩ := h enc w base spare held k cs (by omega) (by omega) (fun fl hfl => by
    obtain ⟨i, hi, rfl⟩ := List.getElem_of_mem hfl
    have hi' : i < fs.size := by simpa using hi
    have := hel i fs[i] (by simp [hi'])
    rw [List.getElem?_eq_getElem (by omega)] at this
    exact ⟨_, by simpa using this⟩)
  rw [List.drop_zero] at h1
  refine ⟨g a, ?_, by show V (f (g a)); rw [hfg]; exact h2⟩
  show d.K w (f (g a)) cs
  rw [hfg]
  exact h1
theorem op_mono {α : Type} {m : Nat} {d : Kd α} {V V2 : α → Prop} (h : Op P m t d V) (hv : ∀ a, V a → V2 a) : Op P m t d V2 := by
  intro H enc w base spare held fuel cs x hf hx
  obtain ⟨a, h1, h2⟩ := h enc w base spare held fuel cs x hf hx
  exact ⟨a, h1, hv a h2⟩
end
end Go.Proofs.Ytohgjbkiemnfnaa.Open
