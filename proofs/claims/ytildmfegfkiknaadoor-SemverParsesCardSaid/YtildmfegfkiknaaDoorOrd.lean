/- Plain laws of comparisons: what compares well does so row by row, and one behind the other. No program in sight. -/
import Derived.Test.YtildmfegfkiknaaDoorAid
namespace Go.Proofs.YtildmfegfkiknaaDoor.Ord
set_option linter.unusedVariables false

/-- A comparison by -1, 0, 1: turned about it is turned, it goes on, 0 is of what is the same. -/
structure Cmps {α : Type} (c : α → α → Int) : Prop where
  rng : ∀ a b, -1 ≤ c a b ∧ c a b ≤ 1
  flip : ∀ a b, c b a = - c a b
  le : ∀ a b d, c a b ≤ 0 → c b d ≤ 0 → c a d ≤ 0
  zero : ∀ a b, c a b = 0 → a = b
theorem Cmps.refl {α : Type} {c : α → α → Int} (h : Cmps c) (a : α) : c a a = 0 := by have := h.flip a a; omega

/-- Row by row; what ends first stands ahead. -/
def cmpLs {α : Type} (c : α → α → Int) : List α → List α → Int
  | [], [] => 0
  | [], _ :: _ => -1
  | _ :: _, [] => 1
  | a :: x, b :: y => if c a b = 0 then cmpLs c x y else c a b
theorem Cmps.list {α : Type} {c : α → α → Int} (h : Cmps c) : Cmps (cmpLs c) where
  rng := by
    intro a
    induction a with
    | nil => intro b; cases b <;> simp [cmpLs]
    | cons x a ih =>
      intro b
      cases b with
      | nil => simp [cmpLs]
      | cons y b =>
        simp only [cmpLs]
        split
        · exact ih b
        · exact h.rng x y
  flip := by
    intro a
    induction a with
    | nil => intro b; cases b <;> simp [cmpLs]
    | cons x a ih =>
      intro b
      cases b with
      | nil => simp [cmpLs]
      | cons y b =>
        have hf := h.flip x y
        simp only [cmpLs]
        by_cases e : c x y = 0
        · rw [if_pos e, if_pos (by omega)]; exact ih b
        · rw [if_neg e, if_neg (by omega)]; exact hf
  le := by
    intro a
    induction a with
    | nil =>
      intro b d h1 h2
      cases d with
      | nil => simp [cmpLs]
      | cons z d => simp [cmpLs]
    | cons x a ih =>
      intro b d h1 h2
      cases b with
      | nil => simp [cmpLs] at h1
      | cons y b =>
        cases d with
        | nil => simp [cmpLs] at h2
        | cons z d =>
          simp only [cmpLs] at h1 h2 ⊢
          have p : c x y ≤ 0 := by by_cases e : c x y = 0 <;> simp only [e, if_true, if_false] at h1 <;> omega
          have q : c y z ≤ 0 := by by_cases e : c y z = 0 <;> simp only [e, if_true, if_false] at h2 <;> omega
          have r := h.le x y z p q
          by_cases e : c x z = 0
          · rw [if_pos e]
            obtain rfl := h.zero _ _ e
            have hf := h.flip x y
            have e1 : c x y = 0 := by omega
            have e2 : c y x = 0 := by omega
            rw [if_pos e1] at h1
            rw [if_pos e2] at h2
            exact ih b d h1 h2
          · rw [if_neg e]; exact r
  zero := by
    intro a
    induction a with
    | nil => intro b; cases b <;> simp [cmpLs]
    | cons x a ih =>
      intro b
      cases b with
      | nil => simp [cmpLs]
      | cons y b =>
        simp only [cmpLs]
        by_cases e : c x y = 0
        · rw [if_pos e]
          intro h1
          rw [h.zero _ _ e, ih b h1]
        · rw [if_neg e]
          intro h1
          exact absurd h1 e
theorem Cmps.comap {α β : Type} {c : β → β → Int} (h : Cmps c) (f : α → β) (hf : ∀ a b, f a = f b → a = b) : Cmps (fun a b => c (f a) (f b)) where
  rng a b := h.rng _ _
  flip a b := h.flip _ _
  le a b d := h.le _ _ _
  zero a b e := hf _ _ (h.zero _ _ e)
/-- First by the one, then by the other. -/
def cmpTo {α β : Type} (c : α → α → Int) (d : β → β → Int) (a b : α × β) : Int := if c a.1 b.1 = 0 then d a.2 b.2 else c a.1 b.1
theorem Cmps.to {α β : Type} {c : α → α → Int} {d : β → β → Int} (h : Cmps c) (g : Cmps d) : Cmps (cmpTo c d) where
  rng a b := by
    unfold cmpTo
    split
    · exact g.rng _ _
    · exact h.rng _ _
  flip a b := by
    have := h.flip a.1 b.1
    unfold cmpTo
    by_cases e : c a.1 b.1 = 0
    · rw [if_pos e, if_pos (by omega)]; exact g.flip _ _
    · rw [if_neg e, if_neg (by omega)]; exact this
  le a b d' h1 h2 := by
    unfold cmpTo at h1 h2 ⊢
    have p : c a.1 b.1 ≤ 0 := by by_cases e : c a.1 b.1 = 0 <;> simp only [e, if_true, if_false] at h1 <;> omega
    have q : c b.1 d'.1 ≤ 0 := by by_cases e : c b.1 d'.1 = 0 <;> simp only [e, if_true, if_false] at h2 <;> omega
    have r := h.le _ _ _ p q
    by_cases e : c a.1 d'.1 = 0
    · rw [if_pos e]
      have e0 := h.zero _ _ e
      have hf := h.flip a.1 b.1
      rw [← e0] at q h2
      have e1 : c a.1 b.1 = 0 := by omega
      have e2 : c b.1 a.1 = 0 := by omega
      rw [if_pos e1] at h1
      rw [if_pos e2] at h2
      exact g.le _ _ _ h1 h2
    · rw [if_neg e]; exact r
  zero a b e := by
    unfold cmpTo at e
    by_cases e1 : c a.1 b.1 = 0
    · rw [if_pos e1] at e
      exact Prod.ext (h.zero _ _ e1) (g.zero _ _ e)
    · rw [if_neg e1] at e
      exact absurd e e1
/-- How two numbers stand. -/
def cmpI (x y : Int) : Int := if x < y then -1 else if y < x then 1 else 0
theorem good_int : Cmps cmpI where
  rng a b := by unfold cmpI; (repeat' split) <;> omega
  flip a b := by unfold cmpI; (repeat' split) <;> omega
  le a b d := by unfold cmpI; (repeat' split) <;> omega
  zero a b := by unfold cmpI; (repeat' split) <;> omega
theorem cmpI_u8 (a b : UInt8) : cmpI a.toNat b.toNat = if a < b then -1 else if b < a then 1 else 0 := by
  unfold cmpI
  simp only [UInt8.lt_iff_toNat_lt, Int.ofNat_lt]
def cmpB (a b : UInt8) : Int := cmpI a.toNat b.toNat
theorem good_byte : Cmps cmpB := good_int.comap (fun a : UInt8 => (a.toNat : Int)) fun a b h => UInt8.toNat_inj.mp (Int.ofNat_inj.mp h)
theorem compareBytes_ls : ∀ a b : List UInt8, Lib.compareBytes a b = cmpLs cmpB a b
  | [], [] => rfl
  | [], _ :: _ => rfl
  | _ :: _, [] => rfl
  | a :: x, b :: y => by
    unfold Lib.compareBytes
    simp only [cmpLs]
    rw [compareBytes_ls x y, cmpB, cmpI_u8]
    by_cases h1 : a < b
    · simp [h1]
    · by_cases h2 : b < a
      · simp [h1, h2]
      · simp [h1, h2]
/-- A row against itself with more behind. -/
theorem ls_more {α : Type} {c : α → α → Int} (h : Cmps c) (l : List α) (a b : List α) : cmpLs c (l ++ a) (l ++ b) = cmpLs c a b := by
  induction l with
  | nil => rfl
  | cons x l ih => simp only [List.cons_append, cmpLs]; rw [if_pos (h.refl x)]; exact ih
end Go.Proofs.YtildmfegfkiknaaDoor.Ord
