/- Rules for a scope with labels that gotos jump back to: proved of the model's own code rules; no program in sight. -/
import Derived.Scope
import Derived.WalkMore
import Derived.Deep.LoopGhost
import Derived.Laws.Strings
namespace Go.Proofs.Ytohgjbkiemnfnaa.Lab
open Go

/-- A goto to label l: S l; every other way out: Q. -/
def gotos (S : Nat → Act → World → Prop) (Q : Exit → Act → World → Prop) : Exit → Act → World → Prop
  | .goto l, a, w => S l a w
  | e, a, w => Q e a w

section
variable {S : Nat → Act → World → Prop} {Q : Exit → Act → World → Prop} {a : Act} {w : World}
theorem gotos_normal : gotos S Q .normal a w = Q .normal a w := rfl
theorem gotos_exit (id : Nat) : gotos S Q (.exit id) a w = Q (.exit id) a w := rfl
theorem gotos_ret : gotos S Q .ret a w = Q .ret a w := rfl
theorem gotos_panic (ch : List PanicEntry) : gotos S Q (.panic ch) a w = Q (.panic ch) a w := rfl
end

/-- With at most n jumps still to come, it is safe to go on from label l. -/
def SafeN (P : Program) (c : Code) (Q : Exit → Act → World → Prop) (n : Nat) (l : Nat) (a : Act) (w : World) : Prop :=
  ∃ rest, findLabel c l = some rest ∧ rest.wp P (gotos (fun l' a' w' => ∃ m, ∃ _ : m < n, SafeN P c Q m l' a' w') Q) a w
  termination_by n

/-- A jump that is safe with fewer than n. -/
def S (P : Program) (c : Code) (Q : Exit → Act → World → Prop) (n : Nat) (l : Nat) (a : Act) (w : World) : Prop :=
  ∃ m, m < n ∧ SafeN P c Q m l a w

theorem safeN_mk {P : Program} {c rest : Code} {Q : Exit → Act → World → Prop} {n l : Nat} {a : Act} {w : World} (hf : findLabel c l = some rest)
    (h : rest.wp P (gotos (S P c Q n) Q) a w) : SafeN P c Q n l a w := by
  rw [SafeN]
  refine ⟨rest, hf, wp_mono h ?_⟩
  intro e a' w' hq
  cases e with
  | goto l' => obtain ⟨m, hm, hs⟩ := hq; exact ⟨m, hm, hs⟩
  | normal => exact hq
  | exit id => exact hq
  | ret => exact hq
  | panic ch => exact hq
  | outgrown => exact hq

theorem safeN_out {P : Program} {c : Code} {Q : Exit → Act → World → Prop} {n l : Nat} {a : Act} {w : World} (h : SafeN P c Q n l a w) :
    ∃ rest, findLabel c l = some rest ∧ rest.wp P (gotos (S P c Q n) Q) a w := by
  rw [SafeN] at h
  obtain ⟨rest, hf, h⟩ := h
  refine ⟨rest, hf, wp_mono h ?_⟩
  intro e a' w' hq
  cases e with
  | goto l' => obtain ⟨m, hm, hs⟩ := hq; exact ⟨m, hm, hs⟩
  | normal => exact hq
  | exit id => exact hq
  | ret => exact hq
  | panic ch => exact hq
  | outgrown => exact hq

/-- A scope: its code, where every jump is safe. -/
theorem wp_scope_lab {P : Program} {c : Code} {Q : Exit → Act → World → Prop} {a : Act} {w : World} (c' : Code) (hc : c' = c) (n : Nat)
    (h : c.wp P (gotos (S P c' Q n) Q) a w) : (Code.scope c).wp P Q a w := by
  subst hc
  intro b k cs
  have key : ∀ n l rest a w, findLabel c' l = some rest → SafeN P c' Q n l a w →
      ∃ e a' w', Q e a' w' ∧ Arrives P (lone (b.at a (.code rest :: .inScope c' :: k)) cs w) b k cs e a' w' := by
    intro n
    induction n using Nat.strongRecOn with
    | _ n ih =>
      intro l rest a w hf hs
      obtain ⟨rest', hf', hwp⟩ := safeN_out hs
      obtain rfl : rest = rest' := by rw [hf] at hf'; exact Option.some.inj hf'
      obtain ⟨e, a₁, w₁, hq, harr⟩ := hwp b (.inScope c' :: k) cs
      cases e with
      | normal => exact ⟨.normal, a₁, w₁, hq, Steps.trans harr (.one step_inScope)⟩
      | exit id => exact ⟨.exit id, a₁, w₁, hq, fun k' hk => harr k' (by simp [exitTo, hk])⟩
      | goto l' =>
        obtain ⟨m, hm, hs'⟩ := hq
        obtain ⟨rest₂, hf₂, _⟩ := safeN_out hs'
        obtain ⟨e₂, a₂, w₂, hq₂, harr₂⟩ := ih m hm l' rest₂ a₁ w₁ hf₂ hs'
        exact ⟨e₂, a₂, w₂, hq₂, .of_steps (harr _ (by simp [gotoIn, hf₂])) harr₂⟩
      | ret => exact ⟨_, a₁, w₁, hq, harr⟩
      | panic ch => exact ⟨_, a₁, w₁, hq, harr⟩
      | outgrown => exact ⟨_, a₁, w₁, hq, harr⟩
  obtain ⟨e, a₁, w₁, hq, harr⟩ := h b (.inScope c' :: k) cs
  cases e with
  | normal => exact ⟨.normal, a₁, w₁, hq, .head step_scope (Steps.trans harr (.one step_inScope))⟩
  | exit id => exact ⟨.exit id, a₁, w₁, hq, fun k' hk => .head step_scope (harr k' (by simp [exitTo, hk]))⟩
  | goto l' =>
    obtain ⟨m, _, hs⟩ := hq
    obtain ⟨rest₂, hf₂, _⟩ := safeN_out hs
    obtain ⟨e₂, a₂, w₂, hq₂, harr₂⟩ := key m l' rest₂ a₁ w₁ hf₂ hs
    exact ⟨e₂, a₂, w₂, hq₂, .of_steps (.head step_scope (harr _ (by simp [gotoIn, hf₂]))) harr₂⟩
  | ret => exact ⟨_, a₁, w₁, hq, .of_steps (.one step_scope) harr⟩
  | panic ch => exact ⟨_, a₁, w₁, hq, .of_steps (.one step_scope) harr⟩
  | outgrown => exact ⟨_, a₁, w₁, hq, .of_steps (.one step_scope) harr⟩

/-- What a round at m may lean on: the relation at fewer rounds is safe at the label. -/
def IH (P : Program) (c : Code) (Q : Exit → Act → World → Prop) (l m : Nat) (I : Nat → Act → World → Prop) : Prop :=
  ∀ m' a w, m' < m → I m' a w → SafeN P c Q m' l a w

/-- At a label: the relation holds there, and each round from it is safe. 'I' is told of the frame that stands there. -/
theorem wp_at_label {P : Program} {c B : Code} {Q : Exit → Act → World → Prop} {l n : Nat} {a : Act} {w : World} (I : Act → Nat → Act → World → Prop) (n₀ : Nat)
    (hf : findLabel c l = some (.seq .skip B)) (hn : n₀ ≤ n) (h₀ : I a n₀ a w)
    (round : ∀ m a' w', m ≤ n₀ → I a m a' w' → IH P c Q l m (I a) → B.wp P (gotos (S P c Q m) Q) a' w') : B.wp P (gotos (S P c Q n) Q) a w := by
  have hs : ∀ m a' w', m ≤ n₀ → I a m a' w' → SafeN P c Q m l a' w' := by
    intro m
    induction m using Nat.strongRecOn with
    | _ m ih =>
      intro a' w' hm hI
      refine safeN_mk hf (wp_seq (wp_skip ?_))
      exact round m a' w' hm hI fun m' a'' w'' hlt hI' => ih m' hlt a'' w'' (by omega) hI'
  refine wp_mono (round n₀ a w (Nat.le_refl _) h₀ fun m' a'' w'' hlt hI' => hs m' a'' w'' (by omega) hI') ?_
  intro e a' w' hq
  cases e with
  | goto l' => obtain ⟨m, hm, h⟩ := hq; exact ⟨m, by omega, h⟩
  | normal => exact hq
  | exit id => exact hq
  | ret => exact hq
  | panic ch => exact hq
  | outgrown => exact hq

/-- A jump back to the label: the relation at fewer rounds. -/
theorem again {P : Program} {c : Code} {Q : Exit → Act → World → Prop} {l m n : Nat} {I : Nat → Act → World → Prop} {a : Act} {w : World} (h : IH P c Q l m I) (k : Nat)
    (hm : k < m) (hn : k < n) (hI : I k a w) : S P c Q n l a w := ⟨k, hn, h k a w hm hI⟩

/-- What a slot holds. -/
def tmp (a : Act) (n : Nat) : Value := a.tmps.toList.getD n undef
/-- The code under a function's scope. -/
def under : Code → Code
  | .scope c => c
  | .seq _ b => under b
  | _ => .skip
def scopeOf (f : Func) : Code := match f.body with | some c => under c | none => .skip

/-! ### texts held against each other -/
theorem less_irrefl : ∀ a : List UInt8, Op.bytesLess a a = false
  | [] => rfl
  | a :: x => by simp [Op.bytesLess, less_irrefl x]
theorem less_flip : ∀ a b : List UInt8, (!(Op.bytesLess a b || a == b)) = Op.bytesLess b a
  | [], [] => rfl
  | [], _ :: _ => by simp [Op.bytesLess]
  | _ :: _, [] => by simp [Op.bytesLess]
  | a :: x, b :: y => by
    have ih := less_flip x y
    simp only [Op.bytesLess]
    by_cases h1 : a < b
    · have h2 : ¬ b < a := fun h => absurd (UInt8.lt_trans h1 h) (by simp)
      have h3 : (b == a) = false := by simpa using fun e => by subst e; simp at h1
      simp [h1, h2, h3]
    · by_cases h2 : b < a
      · have h3 : (a == b) = false := by simpa using fun e => by subst e; simp at h2
        simp [h1, h2, h3]
      · have e : a = b := UInt8.le_antisymm (UInt8.not_lt.mp h2) (UInt8.not_lt.mp h1)
        subst e
        simp only [h1, beq_self_eq_true, decide_false, Bool.false_or, Bool.true_and, List.cons_beq_cons]
        exact ih
theorem str_gtr (t : TypeId) (a b : ByteArray) : binOp .gtr t (.string a) (.string b) = pure (.bool (Op.bytesLess b.toList a.toList)) := by
  rw [← less_flip a.toList b.toList]; simp [binOp, Op.stringOp]
theorem str_leq (t : TypeId) (a b : ByteArray) : binOp .leq t (.string a) (.string b) = pure (.bool !(Op.bytesLess b.toList a.toList)) := by
  rw [← less_flip a.toList b.toList]; simp [binOp, Op.stringOp]
theorem str_geq (t : TypeId) (a b : ByteArray) : binOp .geq t (.string a) (.string b) = pure (.bool !(Op.bytesLess a.toList b.toList)) := by
  simp [binOp, Op.stringOp]
end Go.Proofs.Ytohgjbkiemnfnaa.Lab
