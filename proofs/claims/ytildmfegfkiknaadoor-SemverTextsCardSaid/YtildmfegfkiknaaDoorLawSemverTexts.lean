-- Written by a program of this session (wip/xp), out of the translation. Not trusted: Lean checks it.
import Derived.Test.YtildmfegfkiknaaDoorTab
import Derived.Test.YtildmfegfkiknaaDoorRows
import Derived.Test.YtildmfegfkiknaaDoorXn12
import Derived.Test.YtildmfegfkiknaaDoorOpen
import Derived.WalkKit
import Derived.ProofKit
import Derived.OpenShut
import Derived.ShutString
import Derived.ChangeOld
import Derived.Below
import Derived.SizedLaws
import Derived.Test.YtildmfegfkiknaaDoorWb
import Derived.LaidMore
import Derived.LaidHandle
import Derived.SevenTiedAt
import Derived.Test.YtildmfegfkiknaaDoorTie
import Derived.Test.YtildmfegfkiknaaDoorCards
import Derived.Test.YtildmfegfkiknaaDoorWa
import Derived.Test.YtildmfegfkiknaaDoorLab
import Derived.Laws.BytesArg
import Derived.Lib.Bytes
import Derived.Lib.Bytealg
import Derived.Test.YtildmfegfkiknaaDoorXn69
import Derived.Test.YtildmfegfkiknaaDoorXm
import Derived.Test.YtildmfegfkiknaaDoorXn18
import Derived.Test.YtildmfegfkiknaaDoorXn15
import Derived.Test.YtildmfegfkiknaaDoorXn16
import Derived.Test.YtildmfegfkiknaaDoorXn59
import Derived.Test.YtildmfegfkiknaaDoorXn33
import Derived.Lib.ItoaNum
import Derived.Lib.ItoaLen
import Derived.Test.YtildmfegfkiknaaDoorXn40
import Derived.Test.YtildmfegfkiknaaDoorXn42
import Derived.Test.YtildmfegfkiknaaDoorXn44
import Derived.Test.YtildmfegfkiknaaDoorXn46
import Derived.Test.YtildmfegfkiknaaDoorXn61
import Derived.Test.YtildmfegfkiknaaDoorXn34
import Derived.Test.YtildmfegfkiknaaDoorXn35
import Derived.Test.YtildmfegfkiknaaDoorXn36
import Derived.Test.YtildmfegfkiknaaDoorXn37
import Derived.Test.YtildmfegfkiknaaDoorXn32
import Derived.KernelRfl
import Derived.Test.YtildmfegfkiknaaDoorXn45
import Derived.Test.YtildmfegfkiknaaDoorXn30
import Derived.Test.YtildmfegfkiknaaDoorXn27
/- Plain helpers for the pure statements: rounds, bytes of a text as numbers, wraps. No program in sight. -/
namespace Go.Proofs.YtildmfegfkiknaaDoor.Aid
open Go.RowKit Go.Proofs.YtildmfegfkiknaaDoorW.PrintWords Go.Proofs.YtildmfegfkiknaaDoorW.PrintLast

theorem ev_pos {α : Type} {c : Prop} [Decidable c] {f g : Nat → Option α} {r : α} (h : c) (k : Ev f r) : Ev (fun n => if c then f n else g n) r := by
  refine Ev.congr (fun n => ?_) k; rw [if_pos h]
theorem ev_neg {α : Type} {c : Prop} [Decidable c] {f g : Nat → Option α} {r : α} (h : ¬ c) (k : Ev g r) : Ev (fun n => if c then f n else g n) r := by
  refine Ev.congr (fun n => ?_) k; rw [if_neg h]
theorem ev_bind {α β : Type} {g : Nat → Option α} {f : Nat → α → Option β} {a : α} {r : β} (h : Ev g a) (k : Ev (fun n => f n a) r) : Ev (fun n => (g n).bind (fun x => f n x)) r := Ev.bind h k
theorem ev_now {α : Type} {r r' : α} (h : r = r') : Ev (fun _ => some r) r' := h ▸ Ev.now r
theorem ev_done {α : Type} {o : Option α} {r' : α} (h : o = some r') : Ev (fun _ => o) r' := ⟨0, fun _ _ => h⟩

theorem wrap64_in {x : Int} (h0 : -9223372036854775808 ≤ x) (h1 : x < 9223372036854775808) : wrap64 x = x := by unfold wrap64; omega
theorem wrapu64 (x : Int) : IntKind.u64.wrap x = x % 18446744073709551616 := rfl
theorem wrapu64_in {x : Int} (h0 : 0 ≤ x) (h1 : x < 18446744073709551616) : IntKind.u64.wrap x = x := by rw [wrapu64]; omega

theorem bs_length (s : ByteArray) : (bytesOf s).length = s.size := bytesOf_length s
theorem bs_bytes (s : ByteArray) : ∀ x ∈ bytesOf s, 0 ≤ x ∧ x < 256 := by
  intro x hx
  simp only [bytesOf, List.mem_map] at hx
  obtain ⟨c, _, rfl⟩ := hx
  have := c.toNat_lt
  omega
theorem bt_bs (s : ByteArray) (i : Int) : bt s i = rd (bytesOf s) i := (rd_bytesOf s i).symm
theorem bs_inj {a b : ByteArray} (h : bytesOf a = bytesOf b) : a = b := by
  obtain ⟨⟨la⟩⟩ := a
  obtain ⟨⟨lb⟩⟩ := b
  simp only [bytesOf] at h
  have h2 : la = lb := by
    have hinj : Function.Injective fun c : UInt8 => (c.toNat : Int) := fun x y hxy => UInt8.toNat_inj.mp (Int.ofNat_inj.mp hxy)
    exact (List.map_inj_right (fun x y hxy => hinj hxy)).mp h
  rw [h2]
theorem bs_append (a b : ByteArray) : bytesOf (a ++ b) = bytesOf a ++ bytesOf b := by simp [bytesOf, ByteArray.data_append]
theorem bs_extract (s : ByteArray) (i j : Nat) : bytesOf (s.extract i j) = ((bytesOf s).take j).drop i := by
  simp only [bytesOf, ByteArray.data_extract, Array.toList_extract, List.extract, List.map_take, List.map_drop]
  rw [List.drop_take]
theorem bs_ofNums (xs : List Int) (h : ∀ x ∈ xs, 0 ≤ x ∧ x < 256) : bytesOf (strOfNums xs) = xs := by
  simp only [bytesOf, strOfNums_data, List.map_map]
  conv => rhs; rw [← List.map_id xs]
  apply List.map_congr_left
  intro x hx
  have := h x hx
  simp only [Function.comp_apply, id_eq]
  rw [UInt8.toNat_ofNat']
  omega
theorem u8_wf {l : List Int} (h : ∀ x ∈ l, (Lit.int .u8 x).wf = true) : ∀ x ∈ l, 0 ≤ x ∧ x < 256 := by
  intro x hx
  have := h x hx
  simp only [Lit.wf, IntKind.min, IntKind.max, IntKind.signed, IntKind.bits, Bool.and_eq_true] at this
  simp at this
  omega
theorem toList_data (s : ByteArray) : s.toList = s.data.toList := ByteArray.toList_eq s
/-- A text against a text that is written out: by their numbers. -/
theorem toList_eq_iff (s : ByteArray) (l : List UInt8) : s.toList = l ↔ bytesOf s = l.map fun c => (c.toNat : Int) := by
  rw [toList_data]
  unfold bytesOf
  constructor
  · intro h; rw [h]
  · intro h
    exact (List.map_inj_right (fun x y hxy => UInt8.toNat_inj.mp (Int.ofNat_inj.mp hxy))).mp h
/-- How lists of numbers stand. -/
def lessI : List Int → List Int → Bool
  | _, [] => false
  | [], _ :: _ => true
  | a :: x, b :: y => decide (a < b) || (decide (a = b) && lessI x y)
theorem less_map : ∀ a b : List UInt8, Op.bytesLess a b = lessI (a.map fun c => (c.toNat : Int)) (b.map fun c => (c.toNat : Int))
  | [], [] => rfl
  | _ :: _, [] => rfl
  | [], _ :: _ => rfl
  | a :: x, b :: y => by
    simp only [Op.bytesLess, List.map_cons, lessI, less_map x y]
    congr 1
    · simp only [decide_eq_decide, UInt8.lt_iff_toNat_lt]; omega
    · congr 1
      rw [Bool.eq_iff_iff]
      simp only [beq_iff_eq, decide_eq_true_eq]
      constructor
      · intro h; rw [h]
      · intro h; exact UInt8.toNat_inj.mp (Int.ofNat_inj.mp h)
theorem less_bs (a b : ByteArray) : Op.bytesLess a.toList b.toList = lessI (bytesOf a) (bytesOf b) := by rw [toList_data, toList_data, less_map]; rfl
theorem rd_of {l : List Int} {i : Int} (h0 : 0 ≤ i) (h : i < l.length) : rd l i = l[i.toNat]'(by omega) := by
  unfold rd
  rw [List.getD_eq_getElem?_getD, List.getElem?_eq_getElem (by omega)]
  rfl
end Go.Proofs.YtildmfegfkiknaaDoor.Aid

/- Plain laws of comparisons: what compares well does so row by row, and one behind the other. No program in sight. -/
namespace Go.Proofs.YtildmfegfkiknaaDoor.Ord
set_option linter.unusedVariables false

/-- A comparison by -1, 0, 1: turned about it is turned, it goes on, 0 is of what is the same. -/
structure Cmps {α : Type} (c : α → α → Int) : Prop where
  rng : ∀ a b, -1 ≤ c a b ∧ c a b ≤ 1
  flip : ∀ a b, c b a = - c a b
  le : ∀ a b d, c a b ≤ 0 → c b d ≤ 0 → c a d ≤ 0
  zero : ∀ a b, c a b = 0 → a = b
theorem Cmps.refl {α : Type} {c : α → α → Int} (h : Cmps c) (a : α) : c a a = 0 := by have := h.flip a a; omega

/-- Row by row; what ends first stands ahead. -/
def cmpLs {α : Type} (c : α → α → Int) : List α → List α → Int
  | [], [] => 0
  | [], _ :: _ => -1
  | _ :: _, [] => 1
  | a :: x, b :: y => if c a b = 0 then cmpLs c x y else c a b
theorem Cmps.list {α : Type} {c : α → α → Int} (h : Cmps c) : Cmps (cmpLs c) where
  rng := by
    intro a
    induction a with
    | nil => intro b; cases b <;> simp [cmpLs]
    | cons x a ih =>
      intro b
      cases b with
      | nil => simp [cmpLs]
      | cons y b =>
        simp only [cmpLs]
        split
        · exact ih b
        · exact h.rng x y
  flip := by
    intro a
    induction a with
    | nil => intro b; cases b <;> simp [cmpLs]
    | cons x a ih =>
      intro b
      cases b with
      | nil => simp [cmpLs]
      | cons y b =>
        have hf := h.flip x y
        simp only [cmpLs]
        by_cases e : c x y = 0
        · rw [if_pos e, if_pos (by omega)]; exact ih b
        · rw [if_neg e, if_neg (by omega)]; exact hf
  le := by
    intro a
    induction a with
    | nil =>
      intro b d h1 h2
      cases d with
      | nil => simp [cmpLs]
      | cons z d => simp [cmpLs]
    | cons x a ih =>
      intro b d h1 h2
      cases b with
      | nil => simp [cmpLs] at h1
      | cons y b =>
        cases d with
        | nil => simp [cmpLs] at h2
        | cons z d =>
          simp only [cmpLs] at h1 h2 ⊢
          have p : c x y ≤ 0 := by by_cases e : c x y = 0 <;> simp only [e, if_true, if_false] at h1 <;> omega
          have q : c y z ≤ 0 := by by_cases e : c y z = 0 <;> simp only [e, if_true, if_false] at h2 <;> omega
          have r := h.le x y z p q
          by_cases e : c x z = 0
          · rw [if_pos e]
            obtain rfl := h.zero _ _ e
            have hf := h.flip x y
            have e1 : c x y = 0 := by omega
            have e2 : c y x = 0 := by omega
            rw [if_pos e1] at h1
            rw [if_pos e2] at h2
            exact ih b d h1 h2
          · rw [if_neg e]; exact r
  zero := by
    intro a
    induction a with
    | nil => intro b; cases b <;> simp [cmpLs]
    | cons x a ih =>
      intro b
      cases b with
      | nil => simp [cmpLs]
      | cons y b =>
        simp only [cmpLs]
        by_cases e : c x y = 0
        · rw [if_pos e]
          intro h1
          rw [h.zero _ _ e, ih b h1]
        · rw [if_neg e]
          intro h1
          exact absurd h1 e
theorem Cmps.comap {α β : Type} {c : β → β → Int} (h : Cmps c) (f : α → β) (hf : ∀ a b, f a = f b → a = b) : Cmps (fun a b => c (f a) (f b)) where
  rng a b := h.rng _ _
  flip a b := h.flip _ _
  le a b d := h.le _ _ _
  zero a b e := hf _ _ (h.zero _ _ e)
/-- First by the one, then by the other. -/
def cmpTo {α β : Type} (c : α → α → Int) (d : β → β → Int) (a b : α × β) : Int := if c a.1 b.1 = 0 then d a.2 b.2 else c a.1 b.1
theorem Cmps.to {α β : Type} {c : α → α → Int} {d : β → β → Int} (h : Cmps c) (g : Cmps d) : Cmps (cmpTo c d) where
  rng a b := by
    unfold cmpTo
    split
    · exact g.rng _ _
    · exact h.rng _ _
  flip a b := by
    have := h.flip a.1 b.1
    unfold cmpTo
    by_cases e : c a.1 b.1 = 0
    · rw [if_pos e, if_pos (by omega)]; exact g.flip _ _
    · rw [if_neg e, if_neg (by omega)]; exact this
  le a b d' h1 h2 := by
    unfold cmpTo at h1 h2 ⊢
    have p : c a.1 b.1 ≤ 0 := by by_cases e : c a.1 b.1 = 0 <;> simp only [e, if_true, if_false] at h1 <;> omega
    have q : c b.1 d'.1 ≤ 0 := by by_cases e : c b.1 d'.1 = 0 <;> simp only [e, if_true, if_false] at h2 <;> omega
    have r := h.le _ _ _ p q
    by_cases e : c a.1 d'.1 = 0
    · rw [if_pos e]
      have e0 := h.zero _ _ e
      have hf := h.flip a.1 b.1
      rw [← e0] at q h2
      have e1 : c a.1 b.1 = 0 := by omega
      have e2 : c b.1 a.1 = 0 := by omega
      rw [if_pos e1] at h1
      rw [if_pos e2] at h2
      exact g.le _ _ _ h1 h2
    · rw [if_neg e]; exact r
  zero a b e := by
    unfold cmpTo at e
    by_cases e1 : c a.1 b.1 = 0
    · rw [if_pos e1] at e
      exact Prod.ext (h.zero _ _ e1) (g.zero _ _ e)
    · rw [if_neg e1] at e
      exact absurd e e1
/-- How two numbers stand. -/
def cmpI (x y : Int) : Int := if x < y then -1 else if y < x then 1 else 0
theorem good_int : Cmps cmpI where
  rng a b := by unfold cmpI; (repeat' split) <;> omega
  flip a b := by unfold cmpI; (repeat' split) <;> omega
  le a b d := by unfold cmpI; (repeat' split) <;> omega
  zero a b := by unfold cmpI; (repeat' split) <;> omega
theorem cmpI_u8 (a b : UInt8) : cmpI a.toNat b.toNat = if a < b then -1 else if b < a then 1 else 0 := by
  unfold cmpI
  simp only [UInt8.lt_iff_toNat_lt, Int.ofNat_lt]
def cmpB (a b : UInt8) : Int := cmpI a.toNat b.toNat
theorem good_byte : Cmps cmpB := good_int.comap (fun a : UInt8 => (a.toNat : Int)) fun a b h => UInt8.toNat_inj.mp (Int.ofNat_inj.mp h)
theorem compareBytes_ls : ∀ a b : List UInt8, Lib.compareBytes a b = cmpLs cmpB a b
  | [], [] => rfl
  | [], _ :: _ => rfl
  | _ :: _, [] => rfl
  | a :: x, b :: y => by
    unfold Lib.compareBytes
    simp only [cmpLs]
    rw [compareBytes_ls x y, cmpB, cmpI_u8]
    by_cases h1 : a < b
    · simp [h1]
    · by_cases h2 : b < a
      · simp [h1, h2]
      · simp [h1, h2]
/-- A row against itself with more behind. -/
theorem ls_more {α : Type} {c : α → α → Int} (h : Cmps c) (l : List α) (a b : List α) : cmpLs c (l ++ a) (l ++ b) = cmpLs c a b := by
  induction l with
  | nil => rfl
  | cons x l ih => simp only [List.cons_append, cmpLs]; rw [if_pos (h.refl x)]; exact ih
end Go.Proofs.YtildmfegfkiknaaDoor.Ord

/- Plain laws of digits: a run of digits, its number, and how numerals stand. No program in sight. -/
namespace Go.Proofs.YtildmfegfkiknaaDoor.Digits
open Go.RowKit Go.Proofs.YtildmfegfkiknaaDoorW.PrintWords Go.Proofs.YtildmfegfkiknaaDoor.Aid

def isd (c : Int) : Bool := decide (48 ≤ c) && decide (c ≤ 57)
theorem isd_iff (c : Int) : isd c = true ↔ 48 ≤ c ∧ c ≤ 57 := by simp [isd]
def run (l : List Int) : List Int := l.takeWhile isd
def val (l : List Int) : Int := l.foldl (fun v c => 10 * v + (c - 48)) 0
def maxF : Int := 9223372036854775807
theorem val_snoc (l : List Int) (c : Int) : val (l ++ [c]) = 10 * val l + (c - 48) := by simp [val, List.foldl_append]
/-- What the document says of the digits at a place: the number, how many, what is wrong. -/
def np (l : List Int) (a : Int) : Int × Int × Int :=
  if a < 0 ∨ (l.length : Int) < a then (0, 0, 1) else
  if (run (l.drop a.toNat)).length = 0 then (0, 0, 2) else
  if 1 < (run (l.drop a.toNat)).length ∧ rd (run (l.drop a.toNat)) 0 = 48 then (0, 0, 3) else
  if maxF < val (run (l.drop a.toNat)) then (0, 0, 4) else (val (run (l.drop a.toNat)), ((run (l.drop a.toNat)).length : Int), 0)

theorem run_isd (l : List Int) : ∀ c ∈ run l, isd c = true := by
  intro c hc
  induction l with
  | nil => simp [run] at hc
  | cons x l ih =>
    unfold run at hc ih
    rw [List.takeWhile_cons] at hc
    split at hc
    · rcases List.mem_cons.mp hc with rfl | h
      · assumption
      · exact ih h
    · simp at hc
theorem run_le (l : List Int) : (run l).length ≤ l.length := (List.takeWhile_sublist isd).length_le
theorem run_prefix (l : List Int) : run l <+: l := List.takeWhile_prefix isd
/-- In the run, its elements are the list's; at its end no digit stands. -/
theorem run_get (l : List Int) (i : Nat) (h : i < (run l).length) : (run l)[i]? = l[i]? := by
  obtain ⟨t, ht⟩ := run_prefix l
  conv => rhs; rw [← ht]
  rw [List.getElem?_append_left h]
theorem run_end (l : List Int) (c : Int) (h : l[(run l).length]? = some c) : isd c = false := by
  induction l with
  | nil => simp at h
  | cons x l ih =>
    unfold run at h ih
    rw [List.takeWhile_cons] at h
    by_cases hx : isd x = true
    · rw [if_pos hx] at h
      exact ih (by simpa using h)
    · rw [if_neg hx] at h
      simp at h
      subst h
      simpa using hx
theorem val_nonneg (l : List Int) (h : ∀ c ∈ l, isd c = true) : 0 ≤ val l := by
  unfold val
  suffices hs : ∀ (l : List Int) (v : Int), 0 ≤ v → (∀ c ∈ l, isd c = true) → 0 ≤ l.foldl (fun v c => 10 * v + (c - 48)) v from hs l 0 (by omega) h
  intro l
  induction l with
  | nil => intro v hv _; exact hv
  | cons c l ih =>
    intro v hv hd
    have hc := (isd_iff c).mp (hd c (by simp))
    exact ih _ (by show 0 ≤ 10 * v + (c - 48); omega) fun x hx => hd x (by simp [hx])

theorem foldl_val (l : List Int) (v : Int) : l.foldl (fun v c => 10 * v + (c - 48)) v = v * 10 ^ l.length + val l := by
  induction l generalizing v with
  | nil => simp [val]
  | cons c l ih =>
    unfold val
    rw [List.foldl_cons, List.foldl_cons, ih, ih (10 * 0 + (c - 48)), List.length_cons, Int.pow_succ]
    rw [Int.add_mul, Int.add_mul]
    have e1 : 10 * v * 10 ^ l.length = v * (10 ^ l.length * 10) := by rw [Int.mul_comm 10 v, Int.mul_assoc, Int.mul_comm 10]
    rw [e1]
    omega
theorem val_cons (c : Int) (l : List Int) : val (c :: l) = (c - 48) * 10 ^ l.length + val l := by
  have := foldl_val l (10 * 0 + (c - 48))
  simp only [Int.mul_zero, Int.zero_add] at this
  rw [← this]
  simp [val]
theorem val_append (l m : List Int) : val (l ++ m) = val l * 10 ^ m.length + val m := by
  unfold val
  rw [List.foldl_append, foldl_val]
  rfl
theorem pow_pos10 (n : Nat) : (0 : Int) < 10 ^ n := Int.pow_pos (by omega)
theorem pow_mono10 {m n : Nat} (h : m ≤ n) : (10 : Int) ^ m ≤ 10 ^ n := by
  obtain ⟨d, rfl⟩ : ∃ d, n = m + d := ⟨n - m, by omega⟩
  rw [Int.pow_add]
  have h1 := pow_pos10 m
  have h2 := pow_pos10 d
  have h3 : (10 : Int) ^ m * 1 ≤ 10 ^ m * 10 ^ d := Int.mul_le_mul_of_nonneg_left (by omega) (by omega)
  omega
theorem val_lt (l : List Int) (h : ∀ c ∈ l, isd c = true) : val l < 10 ^ l.length := by
  induction l with
  | nil => simp [val]
  | cons c l ih =>
    have hc := (isd_iff c).mp (h c (by simp))
    have hl := ih fun x hx => h x (by simp [hx])
    rw [val_cons, List.length_cons, Int.pow_succ]
    have hp := pow_pos10 l.length
    have h1 : (c - 48) * 10 ^ l.length ≤ 9 * 10 ^ l.length := Int.mul_le_mul_of_nonneg_right (by omega) (by omega)
    omega
/-- A numeral with a first digit that isn't 0 is at least that long a number. -/
theorem val_ge (c : Int) (l : List Int) (h : ∀ x ∈ c :: l, isd x = true) (h0 : c ≠ 48) : (10 : Int) ^ l.length ≤ val (c :: l) := by
  have hc := (isd_iff c).mp (h c (by simp))
  have hl := val_nonneg l fun x hx => h x (by simp [hx])
  rw [val_cons]
  have h1 : 1 * (10 : Int) ^ l.length ≤ (c - 48) * 10 ^ l.length := Int.mul_le_mul_of_nonneg_right (by omega) (by have := pow_pos10 l.length; omega)
  omega
/-- Digits, as many and as many: they stand as their numbers do. -/
theorem less_val : ∀ (a b : List Int), a.length = b.length → (∀ c ∈ a, isd c = true) → (∀ c ∈ b, isd c = true) → lessI a b = decide (val a < val b)
  | [], [], _, _, _ => by simp [lessI, val]
  | [], _ :: _, h, _, _ => by simp at h
  | _ :: _, [], h, _, _ => by simp at h
  | x :: a, y :: b, h, ha, hb => by
    have hl : a.length = b.length := by simpa using h
    have ih := less_val a b hl (fun c hc => ha c (by simp [hc])) fun c hc => hb c (by simp [hc])
    have hA := val_lt a fun c hc => ha c (by simp [hc])
    have hB := val_lt b fun c hc => hb c (by simp [hc])
    have hA0 := val_nonneg a fun c hc => ha c (by simp [hc])
    have hB0 := val_nonneg b fun c hc => hb c (by simp [hc])
    have hp := pow_pos10 a.length
    simp only [lessI]
    rw [ih, val_cons, val_cons, hl]
    rw [hl] at hA hp
    rw [Bool.eq_iff_iff]
    simp only [Bool.or_eq_true, Bool.and_eq_true, decide_eq_true_eq]
    rcases Int.lt_trichotomy x y with hxy | hxy | hxy
    · have h1 : (x - 48 + 1) * 10 ^ b.length ≤ (y - 48) * 10 ^ b.length := Int.mul_le_mul_of_nonneg_right (by omega) (by omega)
      rw [Int.add_mul] at h1
      constructor
      · intro _; omega
      · intro _; exact .inl hxy
    · subst hxy
      constructor
      · rintro (h | ⟨_, h⟩) <;> omega
      · intro h; exact .inr ⟨rfl, by omega⟩
    · have h1 : (y - 48 + 1) * 10 ^ b.length ≤ (x - 48) * 10 ^ b.length := Int.mul_le_mul_of_nonneg_right (by omega) (by omega)
      rw [Int.add_mul] at h1
      constructor
      · rintro (h | ⟨h, _⟩) <;> omega
      · intro h; omega
theorem run_rd (l : List Int) (a : Int) (ha : 0 ≤ a) (n : Nat) (hn : n < (run (l.drop a.toNat)).length) : a + n < l.length ∧ rd l (a + n) = (run (l.drop a.toNat))[n] := by
  have h1 := run_get (l.drop a.toNat) n hn
  rw [List.getElem?_drop, List.getElem?_eq_getElem hn] at h1
  have h2 : a.toNat + n < l.length := by
    rcases Nat.lt_or_ge (a.toNat + n) l.length with h | h
    · exact h
    · rw [List.getElem?_eq_none h] at h1; cases h1
  refine ⟨by omega, ?_⟩
  unfold rd
  rw [show (a + n).toNat = a.toNat + n by omega, List.getD_eq_getElem?_getD, ← h1]
  rfl
theorem run_stop (l : List Int) (a : Int) (ha : 0 ≤ a) (h : a + ((run (l.drop a.toNat)).length : Int) < l.length) : isd (rd l (a + ((run (l.drop a.toNat)).length : Int))) = false := by
  refine run_end (l.drop a.toNat) _ ?_
  rw [List.getElem?_drop]
  unfold rd
  rw [show (a + ((run (l.drop a.toNat)).length : Int)).toNat = a.toNat + (run (l.drop a.toNat)).length by omega, List.getD_eq_getElem?_getD, List.getElem?_eq_getElem (by omega)]
  rfl
end Go.Proofs.YtildmfegfkiknaaDoor.Digits

/- Which texts are numerals: the program's function and the document's come to one plain function. -/
namespace Go.Proofs.YtildmfegfkiknaaDoor.Is01
open Go.RowKit Go.Proofs.YtildmfegfkiknaaDoorW.PrintWords Go.Proofs.YtildmfegfkiknaaDoor.Aid Go.Proofs.YtildmfegfkiknaaDoor.Digits Go.Proofs.YtildmfegfkiknaaDoor.X

/-- A numeral: digits, at least one, the first of which isn't 0, but of the numeral 0 alone. -/
def isNum (l : List Int) : Bool := l.all isd && (decide (l.length = 1) || (decide (1 ≤ l.length) && decide (rd l 0 ≠ 48)))
theorem digit_ev (c : Int) (h : 0 ≤ c ∧ c < 256) : num_digit.f c = some (isd c) := by
  unfold num_digit.f isd
  congr 1
  rw [← Bool.decide_and, decide_eq_decide]
  omega
theorem bt_get (s : ByteArray) (n : Nat) (h : n < (bytesOf s).length) : bt s (n : Int) = (bytesOf s)[n] := by
  rw [bt_bs, rd_of (by omega) (by omega)]; rfl
theorem all_false {l : List Int} {n : Nat} (h : n < l.length) (hd : isd l[n] = false) : l.all isd = false := by
  rw [List.all_eq_false]
  exact ⟨l[n], List.getElem_mem h, by simp [hd]⟩
theorem all_of {l : List Int} (h : ∀ i (hi : i < l.length), isd l[i] = true) : l.all isd = true := by
  rw [List.all_eq_true]
  intro x hx
  obtain ⟨i, hi, rfl⟩ := List.getElem_of_mem hx
  exact h i hi

theorem is_l0 (s : ByteArray) (hs : s.size ≤ 140737488351232) (d : Nat) : ∀ n : Nat, s.size - n = d → n ≤ s.size → (∀ i (hi : i < (bytesOf s).length), i < n → isd (bytesOf s)[i] = true) →
    Ev (fun k => num_Is.l0 k s (n : Int)) (isNum (bytesOf s)) := by
  have hl := bs_length s
  have stop : ∀ n : Nat, n ≤ s.size → (n = s.size → (bytesOf s).all isd = true) → (n < s.size → (bytesOf s).all isd = false) →
      Ev (fun _ => if (n : Int) > 0 then (if (n : Int) = (s.size : Int) then (if (n : Int) = 1 then (some true) else (if 0 < (s.size : Int) then (some ((bt s 0) != 48)) else (none))) else (some false)) else (some false)) (isNum (bytesOf s)) := by
    intro n hn he hlt
    unfold isNum
    by_cases h0 : (n : Int) > 0
    · refine ev_pos h0 ?_
      by_cases h1 : (n : Int) = (s.size : Int)
      · refine ev_pos h1 ?_
        rw [he (by omega), Bool.true_and]
        by_cases h2 : (n : Int) = 1
        · refine ev_pos h2 (ev_now ?_)
          rw [decide_eq_true (show (bytesOf s).length = 1 by omega)]
          rfl
        · refine ev_neg h2 (ev_pos (by omega) (ev_now ?_))
          rw [decide_eq_false (show ¬ (bytesOf s).length = 1 by omega), decide_eq_true (show 1 ≤ (bytesOf s).length by omega), bt_bs, Bool.false_or, Bool.true_and]
          rw [Bool.eq_iff_iff, bne_iff_ne, decide_eq_true_eq]
      · refine ev_neg h1 (ev_now ?_)
        rw [hlt (by omega), Bool.false_and]
    · refine ev_neg h0 (ev_now ?_)
      by_cases hz : s.size = 0
      · rw [decide_eq_false (show ¬ (bytesOf s).length = 1 by omega), decide_eq_false (show ¬ 1 ≤ (bytesOf s).length by omega)]
        simp
      · rw [hlt (by omega), Bool.false_and]
  induction d with
  | zero =>
    intro n hd hn hall
    refine Ev.step (fun k => by rw [num_Is.l0]) (ev_neg (by omega) ?_)
    exact stop n hn (fun _ => all_of fun i hi => hall i hi (by omega)) fun h => by omega
  | succ d ih =>
    intro n hd hn hall
    have hlt : n < (bytesOf s).length := by omega
    refine Ev.step (fun k => by rw [num_Is.l0]) (ev_pos (by omega) (ev_pos (by omega) ?_))
    rw [digit_ev _ (by have := bt_range s (n : Int); omega), bt_get s n hlt]
    refine ev_bind (Ev.now _) ?_
    by_cases hdg : isd (bytesOf s)[n] = true
    · refine ev_pos hdg ?_
      rw [wrap64_in (by omega) (by omega), show (n : Int) + 1 = ((n + 1 : Nat) : Int) by omega]
      refine ih (n + 1) (by omega) (by omega) fun i hi hlt2 => ?_
      by_cases e : i = n
      · subst e; exact hdg
      · exact hall i hi (by omega)
    · refine ev_neg hdg ?_
      exact stop n hn (fun h => by omega) fun _ => all_false hlt (by simpa using hdg)

theorem is_ev (s : ByteArray) (hs : s.size ≤ 140737488351232) : Ev (fun k => num_Is.f k s) (isNum (bytesOf s)) := by
  unfold num_Is.f
  exact is_l0 s hs _ 0 rfl (by omega) fun i hi h => by omega

theorem refis_ev (s : ByteArray) (hs : s.size ≤ 140737488351232) : Ev (fun k => ferruleref01_Is.f k s) (isNum (bytesOf s)) := by
  have hl := bs_length s
  unfold ferruleref01_Is.f
  suffices h : ∀ d (n : Nat), s.size - n = d → n ≤ s.size → (∀ i (hi : i < (bytesOf s).length), i < n → isd (bytesOf s)[i] = true) →
      Ev (fun k => ferruleref01_Is.l0 k s (n : Int)) (isNum (bytesOf s)) from h _ 0 rfl (by omega) fun i hi h => by omega
  intro d
  induction d with
  | zero =>
    intro n hd hn hall
    have ha : (bytesOf s).all isd = true := all_of fun i hi => hall i hi (by omega)
    refine Ev.step (fun k => by rw [ferruleref01_Is.l0]) (ev_neg (by omega) ?_)
    unfold isNum
    rw [ha, Bool.true_and]
    by_cases h1 : s.toList = ([48] : List UInt8)
    · refine ev_pos h1 (ev_now ?_)
      rw [toList_eq_iff] at h1
      rw [h1]
      rfl
    · refine ev_neg h1 ?_
      by_cases h2 : s.toList = ([] : List UInt8)
      · refine ev_pos h2 (ev_now ?_)
        rw [toList_eq_iff] at h2
        rw [h2]
        rfl
      · refine ev_neg h2 ?_
        rw [toList_eq_iff] at h1 h2
        have hpos : 1 ≤ (bytesOf s).length := by
          rcases Nat.eq_zero_or_pos (bytesOf s).length with h | h
          · exact absurd (List.length_eq_zero_iff.mp h) h2
          · exact h
        refine ev_pos (by omega) (ev_now ?_)
        rw [decide_eq_true hpos, bt_bs, Bool.true_and]
        by_cases h3 : rd (bytesOf s) 0 = 48
        · rw [h3]
          have h4 : ¬ (bytesOf s).length = 1 := by
            intro h5
            apply h1
            obtain ⟨c, hc⟩ := List.length_eq_one_iff.mp h5
            rw [hc] at h3 ⊢
            simp [rd] at h3
            rw [h3]
            rfl
          rw [decide_eq_false h4]
          rfl
        · rw [decide_eq_true (show rd (bytesOf s) 0 ≠ 48 from h3), Bool.or_true]
          simpa using h3
  | succ d ih =>
    intro n hd hn hall
    have hlt : n < (bytesOf s).length := by omega
    refine Ev.step (fun k => by rw [ferruleref01_Is.l0]) (ev_pos (by omega) (ev_pos (by omega) ?_))
    rw [bt_get s n hlt]
    by_cases h1 : (bytesOf s)[n] < 48
    · refine ev_pos h1 (ev_now ?_)
      unfold isNum
      rw [all_false hlt (by simp [isd]; omega), Bool.false_and]
    · refine ev_neg h1 ?_
      by_cases h2 : (bytesOf s)[n] > 57
      · refine ev_pos h2 (ev_now ?_)
        unfold isNum
        rw [all_false hlt (by simp [isd]; omega), Bool.false_and]
      · refine ev_neg h2 ?_
        rw [wrap64_in (by omega) (by omega), show (n : Int) + 1 = ((n + 1 : Nat) : Int) by omega]
        refine ih (n + 1) (by omega) (by omega) fun i hi hlt2 => ?_
        by_cases e : i = n
        · subst e; rw [isd_iff]; omega
        · exact hall i hi (by omega)

end Go.Proofs.YtildmfegfkiknaaDoor.Is01

/- Identifiers: which are numeric, and how two, and two rows of them, stand: the program's functions come to plain ones. -/
namespace Go.Proofs.YtildmfegfkiknaaDoor.Ident02
open Go.RowKit Go.Proofs.YtildmfegfkiknaaDoorW.PrintWords Go.Proofs.YtildmfegfkiknaaDoorW.PrintMore Go.Proofs.YtildmfegfkiknaaDoor.Aid Go.Proofs.YtildmfegfkiknaaDoor.Digits Go.Proofs.YtildmfegfkiknaaDoor.X Go.Proofs.YtildmfegfkiknaaDoor.Is01 Go.Proofs.YtildmfegfkiknaaDoor.Ord

def digits : List UInt8 := [48, 49, 50, 51, 52, 53, 54, 55, 56, 57]
theorem digits_iff (c : UInt8) : digits.contains c = isd (c.toNat : Int) := by
  rw [Bool.eq_iff_iff, isd_iff]
  simp only [digits, List.contains_eq_mem, List.mem_cons, List.not_mem_nil, or_false, decide_eq_true_eq]
  constructor
  · intro h
    rcases h with rfl | rfl | rfl | rfl | rfl | rfl | rfl | rfl | rfl | rfl <;> decide
  · intro h
    have h2 : c.toNat = 48 ∨ c.toNat = 49 ∨ c.toNat = 50 ∨ c.toNat = 51 ∨ c.toNat = 52 ∨ c.toNat = 53 ∨ c.toNat = 54 ∨ c.toNat = 55 ∨ c.toNat = 56 ∨ c.toNat = 57 := by omega
    have e : ∀ n : UInt8, c.toNat = n.toNat → c = n := fun n h => UInt8.toNat_inj.mp h
    rcases h2 with h | h | h | h | h | h | h | h | h | h
    · exact .inl (e 48 h)
    · exact .inr (.inl (e 49 h))
    · exact .inr (.inr (.inl (e 50 h)))
    · exact .inr (.inr (.inr (.inl (e 51 h))))
    · exact .inr (.inr (.inr (.inr (.inl (e 52 h)))))
    · exact .inr (.inr (.inr (.inr (.inr (.inl (e 53 h))))))
    · exact .inr (.inr (.inr (.inr (.inr (.inr (.inl (e 54 h)))))))
    · exact .inr (.inr (.inr (.inr (.inr (.inr (.inr (.inl (e 55 h))))))))
    · exact .inr (.inr (.inr (.inr (.inr (.inr (.inr (.inr (.inl (e 56 h)))))))))
    · exact .inr (.inr (.inr (.inr (.inr (.inr (.inr (.inr (.inr (e 57 h)))))))))
/-- Digits alone, at least one. -/
def numB (l : List UInt8) : Bool := l.all digits.contains && !l.isEmpty
theorem dropWhile_nil_iff {α : Type} (p : α → Bool) (l : List α) : l.dropWhile p = [] ↔ l.all p = true := by
  induction l with
  | nil => simp
  | cons x l ih =>
    rw [List.dropWhile_cons, List.all_cons]
    by_cases h : p x = true
    · rw [if_pos h, ih, h, Bool.true_and]
    · rw [if_neg h]
      simp [h]
theorem trim_nil (l : List UInt8) : Lib.trimS l digits = [] ↔ l.all digits.contains = true := by
  unfold Lib.trimS Lib.trimLeftS Lib.trimRightS
  rw [dropWhile_nil_iff]
  constructor
  · intro h
    have hd : (l.reverse.dropWhile (digits.contains ·)) = [] := by
      cases e : l.reverse.dropWhile (digits.contains ·) with
      | nil => rfl
      | cons x t =>
        have hx : digits.contains x = false := by
          have := List.head?_dropWhile_not (digits.contains ·) l.reverse
          rw [e] at this
          simpa using this
        rw [e] at h
        simp only [List.reverse_cons, List.all_append, List.all_cons, List.all_nil, Bool.and_true, Bool.and_eq_true] at h
        rw [hx] at h
        exact absurd h.2 (by simp)
    rw [dropWhile_nil_iff, List.all_reverse] at hd
    exact hd
  · intro h
    have : l.reverse.dropWhile (digits.contains ·) = [] := by rw [dropWhile_nil_iff, List.all_reverse]; exact h
    rw [this]
    rfl
theorem numeric_ev (s : ByteArray) (hs : s.size ≤ 140737488351232) : ident_numeric.f s = some (numB s.data.toList) := by
  unfold ident_numeric.f numB
  rw [toList_data]
  by_cases h : s.data.toList = []
  · rw [if_pos h, h]; rfl
  · rw [if_neg h]
    unfold strings_Trim.f
    rw [if_pos ⟨by omega, by decide, by decide⟩]
    simp only [Option.bind_some, Option.some.injEq]
    rw [toList_data, Bool.eq_iff_iff]
    have hne : s.data.toList.isEmpty = false := by cases e : s.data.toList with | nil => exact absurd e h | cons _ _ => rfl
    rw [hne, Bool.not_false, Bool.and_true, beq_iff_eq]
    exact trim_nil _

def strip (l : List UInt8) : List UInt8 := l.dropWhile ([48] : List UInt8).contains
def key (l : List UInt8) : Int × Int × List UInt8 × Int := if numB l then (0, (strip l).length, strip l, l.length) else (1, 0, l, 0)
def cmpKey : Int × Int × List UInt8 × Int → Int × Int × List UInt8 × Int → Int := cmpTo cmpI (cmpTo cmpI (cmpTo (cmpLs cmpB) cmpI))
theorem good_key : Cmps cmpKey := good_int.to (good_int.to (good_byte.list.to good_int))
def cmpId (a b : List UInt8) : Int := cmpKey (key a) (key b)
theorem strip_back (l : List UInt8) : l = List.replicate (l.length - (strip l).length) 48 ++ strip l := by
  induction l with
  | nil => rfl
  | cons x l ih =>
    unfold strip at ih ⊢
    rw [List.dropWhile_cons]
    by_cases h : ([48] : List UInt8).contains x = true
    · rw [if_pos h]
      have hx : x = 48 := by simpa using h
      have hl : (l.dropWhile ([48] : List UInt8).contains).length ≤ l.length := (List.dropWhile_sublist _).length_le
      rw [List.length_cons, show l.length + 1 - (l.dropWhile ([48] : List UInt8).contains).length = (l.length - (l.dropWhile ([48] : List UInt8).contains).length) + 1 by omega, List.replicate_succ, List.cons_append, ← ih, hx]
    · rw [if_neg h, Nat.sub_self]; rfl
theorem key_inj (a b : List UInt8) (h : key a = key b) : a = b := by
  unfold key at h
  by_cases ha : numB a = true <;> by_cases hb : numB b = true <;> simp only [ha, hb, if_true] at h
  · simp only [Prod.mk.injEq, true_and] at h
    obtain ⟨_, h1, h2⟩ := h
    rw [strip_back a, strip_back b, h1]
    rw [show a.length = b.length by omega]
  · simp at h
  · simp at h
  · simp at h; exact h
theorem good_id : Cmps cmpId := good_key.comap key key_inj

theorem sign_eq (m n : Nat) (hm : m ≤ 140737488351232) (hn : n ≤ 140737488351232) : ident_sign.f (wrap64 ((m : Int) - (n : Int))) = some (cmpI m n) := by
  rw [wrap64_in (by omega) (by omega)]
  unfold ident_sign.f
  congr 1
  unfold mx mn cmpI
  (repeat' split) <;> omega
theorem trimLeft_zero (s : ByteArray) : strings_TrimLeft.f s (⟨#[48]⟩ : ByteArray) = some ⟨(strip s.data.toList).toArray⟩ := by
  unfold strings_TrimLeft.f
  rw [if_pos ⟨by decide, by decide⟩]
  rfl
theorem strip_le (l : List UInt8) : (strip l).length ≤ l.length := (List.dropWhile_sublist _).length_le
theorem size_of (l : List UInt8) : (⟨l.toArray⟩ : ByteArray).size = l.length := by
  show l.toArray.size = _
  simp
theorem compare_ev (a b : ByteArray) (ha : a.size ≤ 140737488351232) (hb : b.size ≤ 140737488351232) : Ev (fun k => ident_Compare.f k a b) (cmpId a.data.toList b.data.toList) := by
  have la : a.data.toList.length = a.size := Array.length_toList
  have lb : b.data.toList.length = b.size := Array.length_toList
  have ka := strip_le a.data.toList
  have kb := strip_le b.data.toList
  have hj1 : ∀ c, c = (numB b.data.toList && !numB a.data.toList) → (numB a.data.toList && !numB b.data.toList) = false → Ev (fun k => ident_Compare.j1 k a b (numB a.data.toList) c) (cmpId a.data.toList b.data.toList) := by
    intro c hc hn
    refine Ev.step (fun k => by rw [ident_Compare.j1]) ?_
    unfold cmpId cmpKey key
    cases hx : numB a.data.toList <;> cases hy : numB b.data.toList <;> rw [hx, hy] at hc hn
    · simp at hc
      subst hc
      refine ev_neg (by simp) (ev_neg (by simp) ?_)
      unfold strings_Compare.f
      refine ev_bind (Ev.now _) (ev_now ?_)
      rw [compareBytes_ls]
      simp only [Bool.false_eq_true, if_false, cmpTo]
      rw [show cmpI 1 1 = 0 from rfl, show cmpI 0 0 = 0 from rfl]
      simp only [if_true]
      split <;> simp_all
    · simp at hc
      subst hc
      exact ev_pos rfl (ev_now rfl)
    · simp at hn
    · simp at hc
      subst hc
      refine ev_neg (by simp) (ev_pos rfl ?_)
      rw [trimLeft_zero, trimLeft_zero]
      refine ev_bind (Ev.now _) (ev_bind (Ev.now _) ?_)
      rw [size_of, size_of, sign_eq _ _ (by omega) (by omega)]
      refine ev_bind (Ev.now _) ?_
      simp only [if_true, cmpTo]
      rw [show cmpI 0 0 = 0 from rfl]
      simp only [if_true]
      by_cases h1 : cmpI ((strip a.data.toList).length : Int) ((strip b.data.toList).length : Int) = 0
      · refine ev_pos h1 ?_
        rw [if_pos h1]
        unfold strings_Compare.f
        refine ev_bind (Ev.now _) ?_
        rw [compareBytes_ls]
        by_cases h2 : cmpLs cmpB (strip a.data.toList) (strip b.data.toList) = 0
        · refine ev_pos h2 ?_
          rw [sign_eq _ _ ha hb]
          refine ev_bind (Ev.now _) (ev_now ?_)
          rw [if_pos h2, la, lb]
        · refine ev_neg h2 (ev_now ?_)
          rw [if_neg h2]
      · refine ev_neg h1 (ev_now ?_)
        rw [if_neg h1]
  have hj0 : ∀ c, c = (numB a.data.toList && !numB b.data.toList) → Ev (fun k => ident_Compare.j0 k a b (numB a.data.toList) (numB b.data.toList) c) (cmpId a.data.toList b.data.toList) := by
    intro c hc
    refine Ev.step (fun k => by rw [ident_Compare.j0]) ?_
    cases c with
    | true =>
      refine ev_pos rfl (ev_now ?_)
      symm at hc
      rw [Bool.and_eq_true, Bool.not_eq_true'] at hc
      unfold cmpId cmpKey key
      rw [hc.1, hc.2]
      rfl
    | false =>
      refine ev_neg (by simp) ?_
      by_cases hy : numB b.data.toList = true
      · refine ev_pos hy (hj1 _ ?_ hc.symm)
        rw [hy, Bool.true_and]
      · refine ev_neg hy (hj1 _ ?_ hc.symm)
        rw [Bool.not_eq_true] at hy
        rw [hy, Bool.false_and]
  unfold ident_Compare.f
  rw [numeric_ev a ha, numeric_ev b hb]
  refine ev_bind (Ev.now _) (ev_bind (Ev.now _) ?_)
  by_cases hx : numB a.data.toList = true
  · refine ev_pos hx (hj0 _ ?_)
    rw [hx, Bool.true_and]
  · refine ev_neg hx (hj0 _ ?_)
    rw [Bool.not_eq_true] at hx
    rw [hx, Bool.false_and]
end Go.Proofs.YtildmfegfkiknaaDoor.Ident02

/- The row of identifiers at a place of bytes: the program's function and the document's come to one plain function. -/
namespace Go.Proofs.YtildmfegfkiknaaDoor.Row02
open Go.RowKit Go.Proofs.YtildmfegfkiknaaDoorW.PrintWords Go.Proofs.YtildmfegfkiknaaDoorW.PrintMore Go.Proofs.YtildmfegfkiknaaDoor.Aid Go.Proofs.YtildmfegfkiknaaDoor.Digits Go.Proofs.YtildmfegfkiknaaDoor.X Go.Proofs.YtildmfegfkiknaaDoor.Is01 Go.Proofs.YtildmfegfkiknaaDoor.Ident02

/-- May a byte stand in an identifier? -/
def isB (c : Int) : Bool := (decide (48 ≤ c) && decide (c ≤ 57)) || (decide (65 ≤ c) && decide (c ≤ 90)) || (decide (97 ≤ c) && decide (c ≤ 122)) || decide (c = 45)
theorem of_256 (p : Int → Prop) (h : ∀ n : Fin 256, p (n.val : Int)) (c : Int) (hc : 0 ≤ c ∧ c < 256) : p c := by
  have := h ⟨c.toNat, by omega⟩
  rw [show (((⟨c.toNat, by omega⟩ : Fin 256).val : Nat) : Int) = c by simp; omega] at this
  exact this
set_option maxRecDepth 100000 in
theorem isByte_eq (c : Int) (hc : 0 ≤ c ∧ c < 256) : ident_isByte.f c = some (isB c) := of_256 (fun c => ident_isByte.f c = some (isB c)) (by decide +kernel) c hc
set_option maxRecDepth 100000 in
theorem byte_eq (c : Int) (hc : 0 ≤ c ∧ c < 256) : ferruleref02_Byte.f c = some (isB c) := of_256 (fun c => ferruleref02_Byte.f c = some (isB c)) (by decide +kernel) c hc

theorem numB_all (s : ByteArray) : numB s.data.toList = ((bytesOf s).all isd && !(s.data.toList.isEmpty)) := by
  unfold numB bytesOf
  rw [List.all_map]
  congr 1
  congr 1
  funext c
  exact digits_iff c
theorem refNum_ev (s : ByteArray) (hs : s.size ≤ 140737488351232) : Ev (fun k => ferruleref02_Numeric.f k s) (numB s.data.toList) := by
  have hl := bs_length s
  unfold ferruleref02_Numeric.f
  suffices h : ∀ d (n : Nat), s.size - n = d → n ≤ s.size → (∀ i (hi : i < (bytesOf s).length), i < n → isd (bytesOf s)[i] = true) →
      Ev (fun k => ferruleref02_Numeric.l0 k s (n : Int)) (numB s.data.toList) from h _ 0 rfl (by omega) fun i hi h => by omega
  intro d
  induction d with
  | zero =>
    intro n hd hn hall
    have ha : (bytesOf s).all isd = true := all_of fun i hi => hall i hi (by omega)
    refine Ev.step (fun k => by rw [ferruleref02_Numeric.l0]) (ev_neg (by omega) (ev_now ?_))
    rw [numB_all, ha, toList_data, Bool.true_and]
    cases s.data.toList <;> rfl
  | succ d ih =>
    intro n hd hn hall
    have hlt : n < (bytesOf s).length := by omega
    have hno : isd (bytesOf s)[n] = false → numB s.data.toList = false := fun h => by rw [numB_all, all_false hlt h, Bool.false_and]
    refine Ev.step (fun k => by rw [ferruleref02_Numeric.l0]) (ev_pos (by omega) (ev_pos (by omega) ?_))
    rw [bt_get s n hlt]
    by_cases h1 : (bytesOf s)[n] < 48
    · refine ev_pos h1 (ev_now (hno ?_).symm)
      rw [Bool.eq_false_iff, ne_eq, isd_iff]; omega
    · refine ev_neg h1 ?_
      by_cases h2 : (bytesOf s)[n] > 57
      · refine ev_pos h2 (ev_now (hno ?_).symm)
        rw [Bool.eq_false_iff, ne_eq, isd_iff]; omega
      · refine ev_neg h2 ?_
        rw [wrap64_in (by omega) (by omega), show (n : Int) + 1 = ((n + 1 : Nat) : Int) by omega]
        refine ih (n + 1) (by omega) (by omega) fun i hi hlt2 => ?_
        by_cases e : i = n
        · subst e; rw [isd_iff]; omega
        · exact hall i hi (by omega)

/-- What is wrong with the i-th identifier of a row. -/
def chk (s : ByteArray) (i : Nat) (pre : Bool) : Int := if s.data.toList = [] then 5 else if 255 < s.size ∨ 16 ≤ i then 4 else if pre = true then (if numB s.data.toList = true then (if isNum (bytesOf s) = true then 0 else 3) else 0) else 0
theorem check_ev (s : ByteArray) (hs : s.size ≤ 140737488351232) (i : Nat) (pre : Bool) : Ev (fun k => ident_check.f k s (i : Int) pre) (chk s i pre) := by
  unfold ident_check.f chk
  rw [toList_data]
  by_cases h0 : s.data.toList = []
  · exact ev_pos h0 (ev_now (by rw [if_pos h0]))
  · refine ev_neg h0 ?_
    rw [if_neg h0]
    have hj : ∀ c, c = decide (255 < s.size ∨ 16 ≤ i) → Ev (fun k => ident_check.j0 k s pre c) (if 255 < s.size ∨ 16 ≤ i then 4 else if pre = true then (if numB s.data.toList = true then (if isNum (bytesOf s) = true then 0 else 3) else 0) else 0) := by
      intro c hc
      refine Ev.step (fun k => by rw [ident_check.j0]) ?_
      cases c with
      | true => exact ev_pos rfl (ev_now (by rw [if_pos (of_decide_eq_true hc.symm)]))
      | false =>
        refine ev_neg (by simp) ?_
        rw [if_neg (of_decide_eq_false hc.symm)]
        by_cases hp : pre = true
        · refine ev_pos hp ?_
          rw [numeric_ev s hs, if_pos hp]
          refine ev_bind (Ev.now _) ?_
          by_cases hn : numB s.data.toList = true
          · refine ev_pos hn (ev_bind (is_ev s hs) ?_)
            rw [if_pos hn]
            by_cases hi : isNum (bytesOf s) = true
            · exact ev_pos hi (ev_now (by rw [if_pos hi]))
            · exact ev_neg hi (ev_now (by rw [if_neg hi]))
          · exact ev_neg hn (ev_now (by rw [if_neg hn]))
        · exact ev_neg hp (ev_now (by rw [if_neg hp]))
    by_cases h1 : (s.size : Int) > 255
    · exact ev_pos h1 (hj _ (by rw [decide_eq_true]; exact .inl (by omega)))
    · exact ev_neg h1 (hj _ (by rw [decide_eq_decide]; omega))
theorem wrong_ev (s : ByteArray) (hs : s.size ≤ 140737488351232) (i : Nat) (pre : Bool) : Ev (fun k => ferruleref02_wrong.f k s (i : Int) pre) (chk s i pre) := by
  unfold ferruleref02_wrong.f chk
  rw [toList_data]
  by_cases h0 : s.data.toList = []
  · exact ev_pos h0 (ev_now (by rw [if_pos h0]))
  · refine ev_neg h0 ?_
    rw [if_neg h0]
    have hj : ∀ c, c = decide (255 < s.size ∨ 16 ≤ i) → Ev (fun k => ferruleref02_wrong.j0 k s pre c) (if 255 < s.size ∨ 16 ≤ i then 4 else if pre = true then (if numB s.data.toList = true then (if isNum (bytesOf s) = true then 0 else 3) else 0) else 0) := by
      intro c hc
      refine Ev.step (fun k => by rw [ferruleref02_wrong.j0]) ?_
      cases c with
      | true => exact ev_pos rfl (ev_now (by rw [if_pos (of_decide_eq_true hc.symm)]))
      | false =>
        refine ev_neg (by simp) ?_
        rw [if_neg (of_decide_eq_false hc.symm)]
        by_cases hp : pre = true
        · refine ev_pos hp (ev_bind (refNum_ev s hs) ?_)
          rw [if_pos hp]
          by_cases hn : numB s.data.toList = true
          · refine ev_pos hn (ev_bind (refis_ev s hs) ?_)
            rw [if_pos hn]
            by_cases hi : isNum (bytesOf s) = true
            · exact ev_pos hi (ev_now (by rw [if_pos hi]))
            · exact ev_neg hi (ev_now (by rw [if_neg hi]))
          · exact ev_neg hn (ev_now (by rw [if_neg hn]))
        · exact ev_neg hp (ev_now (by rw [if_neg hp]))
    by_cases h1 : (s.size : Int) > 255
    · exact ev_pos h1 (hj _ (by rw [decide_eq_true]; exact .inl (by omega)))
    · exact ev_neg h1 (hj _ (by rw [decide_eq_decide]; omega))

/-- The row behind a beginning. -/
def go (pre : Bool) : List Int → List Int → List ByteArray → Int → List ByteArray × Int × Int
  | [], w, l, n => if chk (strOfNums w) l.length pre = 0 then (l ++ [strOfNums w], n, 0) else ([], 0, chk (strOfNums w) l.length pre)
  | c :: r, w, l, n => if isB c = true then go pre r (w ++ [c]) l (n + 1) else
    if chk (strOfNums w) l.length pre = 0 then (if c = 46 then go pre r [] (l ++ [strOfNums w]) (n + 1) else (l ++ [strOfNums w], n, 0)) else ([], 0, chk (strOfNums w) l.length pre)
theorem go_len (pre : Bool) (r : List Int) : ∀ (w : List Int) (l : List ByteArray) (n : Int), (go pre r w l n).1.length ≤ l.length + r.length + 1 := by
  induction r with
  | nil => intro w l n; unfold go; split <;> simp
  | cons c r ih =>
    intro w l n
    unfold go
    split
    · exact Nat.le_trans (ih _ _ _) (by rw [List.length_cons]; omega)
    · split
      · split
        · exact Nat.le_trans (ih _ _ _) (by rw [List.length_cons, List.length_append, List.length_singleton]; omega)
        · simp
      · simp
theorem go_n (pre : Bool) (r : List Int) : ∀ (w : List Int) (l : List ByteArray) (n : Int), 0 ≤ n → 0 ≤ (go pre r w l n).2.1 ∧ (go pre r w l n).2.1 ≤ n + r.length := by
  induction r with
  | nil =>
    intro w l n hn
    unfold go
    split
    · simp only [List.length_nil]; omega
    · simp only [List.length_nil]; omega
  | cons c r ih =>
    intro w l n hn
    unfold go
    rw [List.length_cons]
    split
    · have := ih (w ++ [c]) l (n + 1) (by omega)
      omega
    · split
      · split
        · have := ih [] (l ++ [strOfNums w]) (n + 1) (by omega)
          omega
        · simp only; omega
      · simp only; omega
def rowP (b : List Int) (a : Int) (pre : Bool) : List ByteArray × Int × Int := if a < 0 ∨ (b.length : Int) < a then ([], 0, 1) else go pre (b.drop a.toNat) [] [] 0
theorem take_snoc (b : List Int) (i n : Nat) (hi : i ≤ n) (h : n < b.length) : (b.take (n + 1)).drop i = (b.take n).drop i ++ [b[n]] := by
  rw [List.take_succ_eq_append_getElem h, List.drop_append_of_le_length (by rw [List.length_take]; omega)]
theorem rd_get (b : List Int) (n : Nat) (h : n < b.length) : rd b (n : Int) = b[n] := by rw [rd_of (by omega) (by omega)]; rfl

theorem row_l0 (b : List Int) (hb : ∀ x ∈ b, 0 ≤ x ∧ x < 256) (hl : b.length ≤ 1000000000) (pre : Bool) (at_ : Nat) (d : Nat) : ∀ (l : List ByteArray) (i n : Nat), b.length - n = d → at_ ≤ i → i ≤ n → n ≤ b.length → l.length ≤ n →
    Ev (fun k => ident_Row.l0 k b (at_ : Int) pre l (i : Int) (n : Int)) (go pre (b.drop n) ((b.take n).drop i) l ((n : Int) - at_)) := by
  induction d with
  | zero =>
    intro l i n hd hai hin hn hll
    have hsz : (strOfNums ((b.take n).drop i)).size ≤ 140737488351232 := by rw [strOfNums_size, List.length_drop, List.length_take]; omega
    rw [List.drop_eq_nil_of_le (show b.length ≤ n by omega)]
    refine Ev.step (fun k => by rw [ident_Row.l0]) (ev_neg (by omega) ?_)
    refine Ev.step (fun k => by rw [ident_Row.j2]) (ev_neg (by simp) (ev_pos (by omega) (ev_pos (by omega) (ev_pos (by omega) ?_))))
    rw [show ((n : Int)).toNat = n by omega, show ((i : Int)).toNat = i by omega]
    refine ev_bind (check_ev _ hsz l.length pre) ?_
    unfold go
    by_cases h : chk (strOfNums ((b.take n).drop i)) l.length pre = 0
    · refine ev_pos h (ev_pos (by omega) (ev_bind (Ev.now _) (ev_neg (by omega) (ev_now ?_))))
      rw [if_pos h, wrap64_in (by omega) (by omega)]
    · refine ev_neg h (ev_now ?_)
      rw [if_neg h]
  | succ d ih =>
    intro l i n hd hai hin hn hll
    have hlt : n < b.length := by omega
    have hc := hb _ (List.getElem_mem hlt)
    have hsz : (strOfNums ((b.take n).drop i)).size ≤ 140737488351232 := by rw [strOfNums_size, List.length_drop, List.length_take]; omega
    rw [List.drop_eq_getElem_cons hlt]
    refine Ev.step (fun k => by rw [ident_Row.l0]) (ev_pos (by omega) (ev_pos (by omega) ?_))
    rw [rd_get b n hlt, isByte_eq _ hc]
    refine ev_bind (Ev.now _) ?_
    refine Ev.step (fun k => by rw [ident_Row.j2]) ?_
    rw [go]
    by_cases h1 : isB b[n] = true
    · refine ev_pos h1 ?_
      rw [if_pos h1, wrap64_in (by omega) (by omega), show (n : Int) + 1 = ((n + 1 : Nat) : Int) by omega, ← take_snoc b i n hin hlt, show (n : Int) - at_ + 1 = ((n + 1 : Nat) : Int) - at_ by omega]
      exact ih l i (n + 1) (by omega) hai (by omega) (by omega) (by omega)
    · refine ev_neg h1 (ev_pos (by omega) (ev_pos (by omega) (ev_pos (by omega) ?_)))
      rw [if_neg h1, show ((n : Int)).toNat = n by omega, show ((i : Int)).toNat = i by omega]
      refine ev_bind (check_ev _ hsz l.length pre) ?_
      by_cases h : chk (strOfNums ((b.take n).drop i)) l.length pre = 0
      · refine ev_pos h (ev_pos (by omega) (ev_bind (Ev.now _) (ev_pos (by omega) (ev_pos (by omega) ?_))))
        rw [if_pos h, rd_get b n hlt]
        by_cases h46 : b[n] = 46
        · refine ev_pos h46 ?_
          rw [if_pos h46, wrap64_in (by omega) (by omega), show (n : Int) + 1 = ((n + 1 : Nat) : Int) by omega, show (n : Int) - at_ + 1 = ((n + 1 : Nat) : Int) - at_ by omega]
          have e : (b.take (n + 1)).drop (n + 1) = [] := List.drop_eq_nil_of_le (by rw [List.length_take]; omega)
          have := ih (l ++ [strOfNums ((b.take n).drop i)]) (n + 1) (n + 1) (by omega) (by omega) (by omega) (by omega) (by simp; omega)
          rw [e] at this
          exact this
        · refine ev_neg h46 (ev_now ?_)
          rw [if_neg h46, wrap64_in (by omega) (by omega)]
      · refine ev_neg h (ev_now ?_)
        rw [if_neg h]
theorem row_ev (b : List Int) (hb : ∀ x ∈ b, 0 ≤ x ∧ x < 256) (hl : b.length ≤ 1000000000) (a : Int) (pre : Bool) : Ev (fun k => ident_Row.f k b a pre) (rowP b a pre) := by
  unfold ident_Row.f rowP
  have hj1 : Ev (fun k => ident_Row.j0 k b a pre ([] : List ByteArray) true) ([], 0, 1) := Ev.step (fun k => by rw [ident_Row.j0]) (ev_pos rfl (Ev.now _))
  by_cases h1 : a < 0
  · refine ev_pos h1 ?_
    rw [if_pos (.inl h1)]; exact hj1
  · refine ev_neg h1 ?_
    by_cases h2 : a > (b.length : Int)
    · rw [decide_eq_true h2, if_pos (.inr h2)]; exact hj1
    · rw [decide_eq_false h2, if_neg (by omega)]
      refine Ev.step (fun k => by rw [ident_Row.j0]) (ev_neg (by simp) ?_)
      have := row_l0 b hb hl pre a.toNat _ [] a.toNat a.toNat rfl (by omega) (by omega) (by omega) (by simp)
      rw [show ((a.toNat : Nat) : Int) = a by omega, show (b.take a.toNat).drop a.toNat = [] from List.drop_eq_nil_of_le (by rw [List.length_take]; omega), Int.sub_self] at this
      exact this

theorem isB_dot : isB 46 = false := by decide
theorem ref_l1 (b : List Int) (hb : ∀ x ∈ b, 0 ≤ x ∧ x < 256) (hl : b.length ≤ 1000000000) (pre : Bool) (at_ e : Nat) (he : e ≤ b.length) (hin : ∀ j (hj : j < b.length), at_ ≤ j → j < e → isB b[j] = true ∨ b[j] = 46)
    (hout : ∀ hj : e < b.length, isB b[e] = false ∧ b[e] ≠ 46) (d : Nat) : ∀ (l : List ByteArray) (w : List Int) (n : Nat), e - n = d → at_ ≤ n → n ≤ e → l.length ≤ n → w.length ≤ n →
    Ev (fun k => ferruleref02_Row.l1 k (strOfNums b) (at_ : Int) pre (e : Int) l (strOfNums w) (n : Int)) (go pre (b.drop n) w l ((n : Int) - at_)) := by
  have hsz : (strOfNums b).size = b.length := strOfNums_size b
  have hbt : ∀ n (h : n < b.length), bt (strOfNums b) (n : Int) = b[n] := fun n h => by rw [bt_bs, bs_ofNums b hb, rd_get b n h]
  induction d with
  | zero =>
    intro l w n hd han hne hll hw
    obtain rfl : n = e := by omega
    have hws : (strOfNums w).size ≤ 140737488351232 := by rw [strOfNums_size]; omega
    refine Ev.step (fun k => by rw [ferruleref02_Row.l1]) (ev_pos (by omega) (ev_neg (by omega) ?_))
    refine Ev.step (fun k => by rw [ferruleref02_Row.j4]) (ev_neg (by simp) (ev_bind (wrong_ev _ hws l.length pre) ?_))
    have hgo : go pre (b.drop n) w l ((n : Int) - at_) = if chk (strOfNums w) l.length pre = 0 then (l ++ [strOfNums w], (n : Int) - at_, 0) else ([], 0, chk (strOfNums w) l.length pre) := by
      by_cases hlt : n < b.length
      · rw [List.drop_eq_getElem_cons hlt, go]
        obtain ⟨g1, g2⟩ := hout hlt
        rw [g1, if_neg (by simp), if_neg g2]
      · rw [List.drop_eq_nil_of_le (by omega), go]
    rw [hgo]
    by_cases h : chk (strOfNums w) l.length pre = 0
    · refine ev_pos h (ev_pos (by omega) ?_)
      rw [if_pos h]
      refine Ev.step (fun k => by rw [ferruleref02_Row.l1]) ?_
      rw [wrap64_in (x := (n : Int) + 1) (by omega) (by omega)]
      refine ev_neg (by omega) (ev_now ?_)
      rw [wrap64_in (by omega) (by omega)]
    · refine ev_neg h (ev_now ?_)
      rw [if_neg h]
  | succ d ih =>
    intro l w n hd han hne hll hw
    have hlt : n < b.length := by omega
    have hws : (strOfNums w).size ≤ 140737488351232 := by rw [strOfNums_size]; omega
    rw [List.drop_eq_getElem_cons hlt, go]
    refine Ev.step (fun k => by rw [ferruleref02_Row.l1]) (ev_pos (by omega) (ev_pos (by omega) (ev_pos (by omega) (ev_pos (by omega) ?_))))
    rw [hbt n hlt]
    refine Ev.step (fun k => by rw [ferruleref02_Row.j4]) ?_
    by_cases h46 : b[n] = 46
    · rw [h46, isB_dot, if_neg (by simp)]
      refine ev_neg (by simp) (ev_bind (wrong_ev _ hws l.length pre) ?_)
      by_cases h : chk (strOfNums w) l.length pre = 0
      · refine ev_pos h (ev_pos (by omega) ?_)
        rw [if_pos h, if_pos rfl, wrap64_in (by omega) (by omega), show (n : Int) + 1 = ((n + 1 : Nat) : Int) by omega, show (n : Int) - at_ + 1 = ((n + 1 : Nat) : Int) - at_ by omega]
        exact ih (l ++ [strOfNums w]) [] (n + 1) (by omega) (by omega) (by omega) (by simp; omega) (by simp)
      · refine ev_neg h (ev_now ?_)
        rw [if_neg h]
    · have hB : isB b[n] = true := (hin n hlt han (by omega)).resolve_right h46
      rw [if_pos hB]
      refine ev_pos (by simpa using h46) ?_
      rw [wrap64_in (by omega) (by omega)]
      refine ev_pos (by omega) (ev_pos (by omega) (ev_pos (by omega) (ev_bind (Ev.now _) ?_)))
      have ex : (strOfNums b).extract ((n : Int)).toNat ((n : Int) + 1).toNat = strOfNums [b[n]] := by
        apply bs_inj
        rw [bs_extract, bs_ofNums b hb, bs_ofNums _ (by simpa using hb _ (List.getElem_mem hlt)), show ((n : Int)).toNat = n by omega, show ((n : Int) + 1).toNat = n + 1 by omega, take_snoc b n n (Nat.le_refl _) hlt, show (b.take n).drop n = [] from List.drop_eq_nil_of_le (by rw [List.length_take]; omega)]
        rfl
      rw [ex]
      have ey : strOfNums w ++ strOfNums [b[n]] = strOfNums (w ++ [b[n]]) := by
        apply congrArg ByteArray.mk (a₁ := ((strOfNums w).data ++ (strOfNums [b[n]]).data)) (a₂ := (strOfNums (w ++ [b[n]])).data) _ |> fun h => by
          rw [← ByteArray.data_append] at h
          exact h
        apply Array.toList_inj.mp
        rw [Array.toList_append, strOfNums_data, strOfNums_data, strOfNums_data, List.map_append]
      rw [ey]
      refine ev_pos (by rw [strOfNums_size, strOfNums_size]; simp; omega) ?_
      rw [show (n : Int) + 1 = ((n + 1 : Nat) : Int) by omega, show (n : Int) - at_ + 1 = ((n + 1 : Nat) : Int) - at_ by omega]
      exact ih l (w ++ [b[n]]) (n + 1) (by omega) (by omega) (by omega) (by omega) (by simp; omega)
theorem ref_l0 (b : List Int) (hb : ∀ x ∈ b, 0 ≤ x ∧ x < 256) (hl : b.length ≤ 1000000000) (pre : Bool) (at_ : Nat) (d : Nat) : ∀ (n : Nat), b.length - n = d → at_ ≤ n → n ≤ b.length → (∀ j (hj : j < b.length), at_ ≤ j → j < n → isB b[j] = true ∨ b[j] = 46) →
    Ev (fun k => ferruleref02_Row.l0 k (strOfNums b) (at_ : Int) pre (n : Int)) (go pre (b.drop at_) [] [] 0) := by
  have hsz : (strOfNums b).size = b.length := strOfNums_size b
  have hbt : ∀ n (h : n < b.length), bt (strOfNums b) (n : Int) = b[n] := fun n h => by rw [bt_bs, bs_ofNums b hb, rd_get b n h]
  have fin : ∀ n, at_ ≤ n → n ≤ b.length → (∀ j (hj : j < b.length), at_ ≤ j → j < n → isB b[j] = true ∨ b[j] = 46) → (∀ hj : n < b.length, isB b[n] = false ∧ b[n] ≠ 46) →
      Ev (fun k => ferruleref02_Row.j2 k (strOfNums b) (at_ : Int) pre (n : Int)) (go pre (b.drop at_) [] [] 0) := by
    intro n h1 h2 h3 h4
    refine Ev.step (fun k => by rw [ferruleref02_Row.j2]) ?_
    have := ref_l1 b hb hl pre at_ n h2 h3 h4 _ [] [] at_ rfl (Nat.le_refl _) h1 (by simp) (by simp)
    rw [Int.sub_self] at this
    exact this
  induction d with
  | zero =>
    intro n hd h1 h2 h3
    refine Ev.step (fun k => by rw [ferruleref02_Row.l0]) (ev_neg (by omega) ?_)
    exact fin n h1 h2 h3 fun hj => by omega
  | succ d ih =>
    intro n hd h1 h2 h3
    have hlt : n < b.length := by omega
    have hc := hb _ (List.getElem_mem hlt)
    refine Ev.step (fun k => by rw [ferruleref02_Row.l0]) (ev_pos (by omega) (ev_pos (by omega) ?_))
    rw [hbt n hlt, byte_eq _ hc]
    refine ev_bind (Ev.now _) ?_
    have next : isB b[n] = true ∨ b[n] = 46 → Ev (fun k => ferruleref02_Row.l0 k (strOfNums b) (at_ : Int) pre (wrap64 ((n : Int) + 1))) (go pre (b.drop at_) [] [] 0) := by
      intro h
      rw [wrap64_in (by omega) (by omega), show (n : Int) + 1 = ((n + 1 : Nat) : Int) by omega]
      refine ih (n + 1) (by omega) (by omega) (by omega) fun j hj ha hjn => ?_
      by_cases e : j = n
      · subst e; exact h
      · exact h3 j hj ha (by omega)
    by_cases g1 : isB b[n] = true
    · exact ev_pos g1 (next (.inl g1))
    · refine ev_neg g1 ?_
      by_cases g2 : b[n] = 46
      · exact ev_pos g2 (next (.inr g2))
      · refine ev_neg g2 (fin n h1 h2 h3 fun _ => ⟨by simpa using g1, g2⟩)
theorem refrow_ev (b : List Int) (hb : ∀ x ∈ b, 0 ≤ x ∧ x < 256) (hl : b.length ≤ 1000000000) (a : Int) (pre : Bool) : Ev (fun k => ferruleref02_Row.f k (strOfNums b) a pre) (rowP b a pre) := by
  have hsz : (strOfNums b).size = b.length := strOfNums_size b
  unfold ferruleref02_Row.f rowP
  have hj1 : Ev (fun k => ferruleref02_Row.j0 k (strOfNums b) a pre true) ([], 0, 1) := Ev.step (fun k => by rw [ferruleref02_Row.j0]) (ev_pos rfl (Ev.now _))
  by_cases h1 : a < 0
  · refine ev_pos h1 ?_
    rw [if_pos (.inl h1)]; exact hj1
  · refine ev_neg h1 ?_
    by_cases h2 : a > ((strOfNums b).size : Int)
    · rw [decide_eq_true h2, if_pos (.inr (by omega))]; exact hj1
    · rw [decide_eq_false h2, if_neg (by omega)]
      refine Ev.step (fun k => by rw [ferruleref02_Row.j0]) (ev_neg (by simp) ?_)
      have := ref_l0 b hb hl pre a.toNat _ a.toNat rfl (Nat.le_refl _) (by omega) fun j hj h1 h2 => by omega
      rw [show ((a.toNat : Nat) : Int) = a by omega] at this
      exact this

theorem rdOf_get (l : List ByteArray) (n : Nat) (h : n < l.length) : rdOf ByteArray.empty l (n : Int) = l[n] := by
  unfold rdOf
  rw [List.getD_eq_getElem?_getD, show ((n : Int)).toNat = n by omega, List.getElem?_eq_getElem h]
  rfl
theorem text_eq (a b : ByteArray) : a.toList = b.toList ↔ a = b := by
  rw [toList_data, toList_data]
  constructor
  · intro h
    cases a; cases b
    congr 1
    exact Array.toList_inj.mp h
  · rintro rfl; rfl
theorem same_l0 (a b : List ByteArray) (hl : a.length = b.length) (ha : a.length ≤ 140737488351232) (d : Nat) : ∀ n : Nat, a.length - n = d → n ≤ a.length → Ev (fun k => ferruleref02_Same.l0 k a b (n : Int)) (decide (a.drop n = b.drop n)) := by
  induction d with
  | zero =>
    intro n hd hn
    refine Ev.step (fun k => by rw [ferruleref02_Same.l0]) (ev_neg (by omega) (ev_now ?_))
    rw [List.drop_eq_nil_of_le (by omega), List.drop_eq_nil_of_le (by omega)]
    rfl
  | succ d ih =>
    intro n hd hn
    have h1 : n < a.length := by omega
    have h2 : n < b.length := by omega
    refine Ev.step (fun k => by rw [ferruleref02_Same.l0]) (ev_pos (by omega) (ev_pos (by omega) (ev_pos (by omega) ?_)))
    rw [List.drop_eq_getElem_cons h1, List.drop_eq_getElem_cons h2, rdOf_get a n h1, rdOf_get b n h2]
    by_cases h : a[n] = b[n]
    · refine ev_pos ((text_eq _ _).mpr h) ?_
      rw [wrap64_in (by omega) (by omega), show (n : Int) + 1 = ((n + 1 : Nat) : Int) by omega]
      have e : decide (a[n] :: a.drop (n + 1) = b[n] :: b.drop (n + 1)) = decide (a.drop (n + 1) = b.drop (n + 1)) := by
        rw [decide_eq_decide]
        constructor
        · intro h'; exact (List.cons.inj h').2
        · intro h'; rw [h, h']
      rw [e]
      exact ih (n + 1) (by omega) (by omega)
    · refine ev_neg (fun h' => h ((text_eq _ _).mp h')) (ev_now ?_)
      symm
      exact decide_eq_false fun h' => h (List.cons.inj h').1
theorem same_ev (a b : List ByteArray) (ha : a.length ≤ 140737488351232) : Ev (fun k => ferruleref02_Same.f k a b) (decide (a = b)) := by
  unfold ferruleref02_Same.f
  by_cases h : (a.length : Int) = (b.length : Int)
  · refine ev_pos h ?_
    have := same_l0 a b (by omega) ha _ 0 rfl (by omega)
    exact this
  · refine ev_neg h (ev_now ?_)
    symm
    exact decide_eq_false fun e => h (by rw [e])
theorem rowP_len (b : List Int) (hl : b.length ≤ 600) (a : Int) (pre : Bool) : (rowP b a pre).1.length ≤ 140737488351232 := by
  unfold rowP
  split
  · simp
  · have := go_len pre (b.drop a.toNat) [] [] 0
    simp at this
    omega
end Go.Proofs.YtildmfegfkiknaaDoor.Row02

/- num.Parse and the document's Parse come to one plain function. -/
namespace Go.Proofs.YtildmfegfkiknaaDoor.Num
open Go.RowKit Go.Proofs.YtildmfegfkiknaaDoorW.PrintWords Go.Proofs.YtildmfegfkiknaaDoor.Aid Go.Proofs.YtildmfegfkiknaaDoor.Digits Go.Proofs.YtildmfegfkiknaaDoor.X

theorem digit_ev (c : Int) (h : 0 ≤ c ∧ c < 256) : num_digit.f c = some (isd c) := by
  unfold num_digit.f isd
  congr 1
  rw [← Bool.decide_and, decide_eq_decide]
  omega

theorem take_snoc (t : List Int) (n : Nat) (h : n < t.length) : t.take (n + 1) = t.take n ++ [t[n]] := by
  rw [List.take_succ_eq_append_getElem h]

/-- Of the program's loop: what it holds behind n digits. -/
structure Holds (t : List Int) (n : Nat) (v : Int) (large : Bool) : Prop where
  no : large = false → v = val (t.take n) ∧ val (t.take n) ≤ maxF
  yes : large = true → maxF < val (t.take n)

theorem Holds.step {t : List Int} {n : Nat} {v : Int} {large : Bool} (h : Holds t n v large) (hn : n < t.length) (hd : ∀ c ∈ t, isd c = true) (b : Bool)
    (hb : b = (large || decide (v > (9223372036854775807 - (t[n] - 48)) / 10))) :
    Holds t (n + 1) (IntKind.u64.wrap (IntKind.u64.wrap (10 * v) + (t[n] - 48) % 256)) b := by
  have hc := (isd_iff _).mp (hd t[n] (List.getElem_mem hn))
  have h0 := val_nonneg (t.take n) fun c hc => hd c (List.mem_of_mem_take hc)
  constructor
  · intro hf
    rw [hf] at hb
    have hb' := hb.symm
    rw [Bool.or_eq_false_iff] at hb'
    obtain ⟨h1, h2⟩ := hb'
    obtain ⟨hv, hm⟩ := h.no h1
    rw [decide_eq_false_iff_not] at h2
    rw [take_snoc t n hn, val_snoc, ← hv]
    unfold maxF at hm ⊢
    rw [wrapu64_in (x := 10 * v) (by omega) (by omega), wrapu64_in (by omega) (by omega)]
    constructor <;> omega
  · intro ht
    rw [ht] at hb
    rw [take_snoc t n hn, val_snoc]
    cases hl : large with
    | true => have := h.yes hl; unfold maxF at this ⊢; omega
    | false =>
      obtain ⟨hv, hm⟩ := h.no hl
      rw [hl, Bool.false_or] at hb
      have h2 := of_decide_eq_true hb.symm
      unfold maxF at hm ⊢
      omega

section
variable {l : List Int} {a : Int}
theorem parse_j3 (l : List Int) (a : Int) (ha : ¬ (a < 0 ∨ (l.length : Int) < a)) (v : Int) (large : Bool) (hh : Holds (run (l.drop a.toNat)) (run (l.drop a.toNat)).length v large)
    (h0 : (run (l.drop a.toNat)).length ≠ 0) (b : Bool) (hb : b = decide (1 < (run (l.drop a.toNat)).length ∧ rd (run (l.drop a.toNat)) 0 = 48)) :
    Ev (fun k => num_Parse.j3 k v ((run (l.drop a.toNat)).length : Int) large b) (np l a) := by
  unfold np
  rw [if_neg ha, if_neg h0]
  refine Ev.step (fun k => by rw [num_Parse.j3]) ?_
  cases b with
  | true =>
    have hb' := of_decide_eq_true hb.symm
    rw [if_pos hb']
    exact ev_pos rfl (Ev.now _)
  | false =>
    have hb' := of_decide_eq_false hb.symm
    rw [if_neg hb']
    refine ev_neg (by simp) ?_
    have e := List.take_length (l := run (l.drop a.toNat))
    cases large with
    | true =>
      have := hh.yes rfl
      rw [e] at this
      rw [if_pos this]
      exact ev_pos rfl (Ev.now _)
    | false =>
      obtain ⟨hv, hm⟩ := hh.no rfl
      rw [e] at hv hm
      rw [if_neg (show ¬ maxF < val (run (l.drop a.toNat)) by omega)]
      refine ev_neg (by simp) (ev_now ?_)
      rw [hv]

theorem rd_byte (hl : ∀ x ∈ l, 0 ≤ x ∧ x < 256) (i : Int) (h0 : 0 ≤ i) (h : i < l.length) : 0 ≤ rd l i ∧ rd l i < 256 := by
  rw [rd_of h0 h]; exact hl _ (List.getElem_mem _)

theorem parse_j2_end (ha : ¬ (a < 0 ∨ (l.length : Int) < a)) (v : Int) (large : Bool)
    (hh : Holds (run (l.drop a.toNat)) (run (l.drop a.toNat)).length v large) :
    Ev (fun k => num_Parse.j2 k l a v ((run (l.drop a.toNat)).length : Int) large false) (np l a) := by
  refine Ev.step (fun k => by rw [num_Parse.j2]) ?_
  refine ev_neg (by simp) ?_
  by_cases h0 : (run (l.drop a.toNat)).length = 0
  · refine ev_pos (by omega) (ev_now ?_)
    unfold np
    rw [if_neg ha, if_pos h0]
  · refine ev_neg (by omega) ?_
    have hr := run_rd l a (by omega) 0 (by omega)
    have e0 : rd l a = rd (run (l.drop a.toNat)) 0 := by
      have := hr.2
      rw [show a + ((0 : Nat) : Int) = a by omega] at this
      rw [this, rd_of (by omega) (by omega)]
      rfl
    by_cases h1 : ((run (l.drop a.toNat)).length : Int) > 1
    · refine ev_pos h1 (ev_pos (by omega) (ev_pos (by omega) ?_))
      refine parse_j3 l a ha v large hh h0 _ ?_
      rw [e0, Bool.eq_iff_iff, beq_iff_eq, decide_eq_true_eq]
      constructor
      · intro h; exact ⟨by omega, h⟩
      · intro h; exact h.2
    · refine ev_neg h1 ?_
      refine parse_j3 l a ha v large hh h0 _ ?_
      symm
      rw [decide_eq_false_iff_not]
      omega

theorem parse_l0 (hl : ∀ x ∈ l, 0 ≤ x ∧ x < 256) (hlen : l.length ≤ 140737488351232) (ha : ¬ (a < 0 ∨ (l.length : Int) < a)) (d : Nat) : ∀ (n : Nat) (v : Int) (large : Bool),
    (run (l.drop a.toNat)).length - n = d → n ≤ (run (l.drop a.toNat)).length → Holds (run (l.drop a.toNat)) n v large →
    Ev (fun k => num_Parse.l0 k l a v (n : Int) large) (np l a) := by
  have hrl : a + ((run (l.drop a.toNat)).length : Int) ≤ l.length := by
    have := run_le (l.drop a.toNat)
    rw [List.length_drop] at this
    omega
  induction d with
  | zero =>
    intro n v large hd hn hh
    obtain rfl : n = (run (l.drop a.toNat)).length := by omega
    refine Ev.step (fun k => by rw [num_Parse.l0]) ?_
    rw [wrap64_in (by omega) (by omega)]
    by_cases h : a + ((run (l.drop a.toNat)).length : Int) < l.length
    · refine ev_pos h (ev_pos (by omega) ?_)
      rw [digit_ev _ (rd_byte hl _ (by omega) h), run_stop l a (by omega) h]
      exact ev_bind (Ev.now _) (parse_j2_end ha v large hh)
    · exact ev_neg h (parse_j2_end ha v large hh)
  | succ d ih =>
    intro n v large hd hn hh
    have hlt : n < (run (l.drop a.toNat)).length := by omega
    obtain ⟨h1, h2⟩ := run_rd l a (by omega) n hlt
    have hdig := run_isd _ _ (List.getElem_mem hlt)
    have hc := (isd_iff _).mp hdig
    refine Ev.step (fun k => by rw [num_Parse.l0]) ?_
    rw [wrap64_in (by omega) (by omega)]
    refine ev_pos h1 (ev_pos (by omega) ?_)
    rw [digit_ev _ (rd_byte hl _ (by omega) h1), h2, hdig]
    refine ev_bind (Ev.now _) ?_
    refine Ev.step (fun k => by rw [num_Parse.j2]) ?_
    rw [wrap64_in (x := a + (n : Int)) (by omega) (by omega), wrap64_in (x := (n : Int) + 1) (by omega) (by omega)]
    refine ev_pos rfl (ev_pos (by omega) (ev_pos h1 ?_))
    rw [h2, show (((run (l.drop a.toNat))[n] - 48) % 256) = (run (l.drop a.toNat))[n] - 48 by omega]
    have hstep := fun b hb => hh.step hlt (run_isd _) b hb
    rw [show (((run (l.drop a.toNat))[n] - 48) % 256) = (run (l.drop a.toNat))[n] - 48 by omega] at hstep
    have ec : ((n : Int) + 1) = ((n + 1 : Nat) : Int) := by omega
    rw [ec]
    cases large with
    | true => exact ev_pos rfl (ih (n + 1) _ true (by omega) (by omega) (hstep true (by simp)))
    | false => exact ev_neg (by simp) (ih (n + 1) _ _ (by omega) (by omega) (hstep _ (by simp)))

/-- The program's Parse. -/
theorem parse_ev (hl : ∀ x ∈ l, 0 ≤ x ∧ x < 256) (hlen : l.length ≤ 140737488351232) : Ev (fun k => num_Parse.f k l a) (np l a) := by
  unfold num_Parse.f
  by_cases h1 : a < 0
  · refine ev_pos h1 (Ev.step (fun k => by rw [num_Parse.j0]) (ev_pos rfl (ev_now ?_)))
    unfold np
    rw [if_pos (.inl h1)]
  · refine ev_neg h1 (Ev.step (fun k => by rw [num_Parse.j0]) ?_)
    by_cases h2 : a > (l.length : Int)
    · rw [decide_eq_true h2]
      refine ev_pos rfl (ev_now ?_)
      unfold np
      rw [if_pos (.inr h2)]
    · rw [decide_eq_false h2]
      refine ev_neg (by simp) ?_
      exact parse_l0 hl hlen (by omega) _ 0 0 false rfl (by omega) ⟨fun _ => by simp [val, maxF], fun h => by cases h⟩
end
end Go.Proofs.YtildmfegfkiknaaDoor.Num

/- The version at a place of bytes: the program's function comes to a plain one of what stands there. -/
namespace Go.Proofs.YtildmfegfkiknaaDoor.Parse03
open Go.RowKit Go.Proofs.YtildmfegfkiknaaDoorW.PrintWords Go.Proofs.YtildmfegfkiknaaDoorW.PrintMore Go.Proofs.YtildmfegfkiknaaDoor.Aid Go.Proofs.YtildmfegfkiknaaDoor.Digits Go.Proofs.YtildmfegfkiknaaDoor.X Go.Proofs.YtildmfegfkiknaaDoor.Row02

theorem np_drop (l : List Int) (a : Nat) (ha : a ≤ l.length) : np l (a : Int) = np (l.drop a) 0 := by
  unfold np
  rw [show ((a : Int)).toNat = a by omega, show (0 : Int).toNat = 0 from rfl, List.drop_zero, if_neg (show ¬ ((a : Int) < 0 ∨ (l.length : Int) < (a : Int)) by omega), if_neg (show ¬ ((0 : Int) < 0 ∨ ((l.drop a).length : Int) < 0) by omega)]
theorem np_le (d : List Int) : 0 ≤ (np d 0).2.1 ∧ (np d 0).2.1 ≤ d.length := by
  have h := run_le d
  unfold np
  rw [show (0 : Int).toNat = 0 from rfl, List.drop_zero]
  (repeat' split) <;> simp only <;> omega
abbrev Ver := Int × Int × Int × List ByteArray × List ByteArray × Int × Int
def no (o e : Int) : Ver := (0, 0, 0, [], [], o, e)
/-- A row behind a mark, if that stands there. -/
def rowS : List Int → Int → List ByteArray × Int × Int
  | [], _ => ([], 0, 0)
  | c :: t, m => if c = m then ((rowP t 0 (m == 45)).1, 1 + (rowP t 0 (m == 45)).2.1, (rowP t 0 (m == 45)).2.2) else ([], 0, 0)
def endS (d : List Int) (o x1 x2 x3 : Int) : Ver :=
  if (rowS d 45).2.2 = 0 then
    (if (rowS (d.drop (rowS d 45).2.1.toNat) 43).2.2 = 0 then (x1, x2, x3, (rowS d 45).1, (rowS (d.drop (rowS d 45).2.1.toNat) 43).1, o + (rowS d 45).2.1 + (rowS (d.drop (rowS d 45).2.1.toNat) 43).2.1, 0)
    else no (o + (rowS d 45).2.1 + (rowS (d.drop (rowS d 45).2.1.toNat) 43).2.1) (rowS (d.drop (rowS d 45).2.1.toNat) 43).2.2)
  else no (o + (rowS d 45).2.1) (rowS d 45).2.2
def p2 (d : List Int) (o m0 m1 : Int) : Ver := if (np d 0).2.2 = 0 then endS (d.drop (np d 0).2.1.toNat) (o + (np d 0).2.1) m0 m1 (np d 0).1 else no o (np d 0).2.2
def p1 (d : List Int) (o m0 : Int) : Ver :=
  if (np d 0).2.2 = 0 then
    (if (np d 0).2.1 = (d.length : Int) then no (o + (np d 0).2.1) 2 else
     if rd d (np d 0).2.1 = 46 then p2 (d.drop ((np d 0).2.1.toNat + 1)) (o + (np d 0).2.1 + 1) m0 (np d 0).1 else no (o + (np d 0).2.1) 3)
  else no o (np d 0).2.2
def p0 (d : List Int) (o : Int) : Ver :=
  if (np d 0).2.2 = 0 then
    (if (np d 0).2.1 = (d.length : Int) then no (o + (np d 0).2.1) 2 else
     if rd d (np d 0).2.1 = 46 then p1 (d.drop ((np d 0).2.1.toNat + 1)) (o + (np d 0).2.1 + 1) (np d 0).1 else no (o + (np d 0).2.1) 3)
  else no o (np d 0).2.2
/-- The version at a place. -/
def parseP (b : List Int) (a : Int) : Ver := if a < 0 ∨ (b.length : Int) < a then no 0 1 else p0 (b.drop a.toNat) a

theorem rowP_drop (b : List Int) (n : Nat) (h : n ≤ b.length) (pre : Bool) : rowP b (n : Int) pre = rowP (b.drop n) 0 pre := by
  unfold rowP
  rw [if_neg (by omega), if_neg (by omega), show ((n : Int)).toNat = n by omega, show (0 : Int).toNat = 0 from rfl, List.drop_zero]
theorem rowP_n (d : List Int) (pre : Bool) : 0 ≤ (rowP d 0 pre).2.1 ∧ (rowP d 0 pre).2.1 ≤ d.length := by
  unfold rowP
  rw [if_neg (by omega), show (0 : Int).toNat = 0 from rfl, List.drop_zero]
  have := go_n pre d [] [] 0 (Int.le_refl 0)
  omega
theorem rowP_l (d : List Int) (pre : Bool) : (rowP d 0 pre).1.length ≤ d.length + 1 := by
  unfold rowP
  rw [if_neg (by omega), show (0 : Int).toNat = 0 from rfl, List.drop_zero]
  have := go_len pre d [] [] 0
  simp at this
  omega
theorem rowS_n (d : List Int) (m : Int) : 0 ≤ (rowS d m).2.1 ∧ (rowS d m).2.1 ≤ d.length := by
  cases d with
  | nil => simp [rowS]
  | cons c t =>
    simp only [rowS]
    split
    · have := rowP_n t (m == 45)
      simp only [List.length_cons]
      omega
    · simp only [List.length_cons]; omega
theorem rowS_l (d : List Int) (m : Int) : (rowS d m).1.length ≤ d.length + 1 := by
  cases d with
  | nil => simp [rowS]
  | cons c t =>
    simp only [rowS]
    split
    · have := rowP_l t (m == 45)
      simp only [List.length_cons]
      omega
    · simp
theorem row_ev (b : List Int) (hb : ∀ x ∈ b, 0 ≤ x ∧ x < 256) (hl : b.length ≤ 1000000000) (n : Nat) (hn : n ≤ b.length) (m : Int) :
    Ev (fun k => semver_row.f k b (n : Int) m) ((rowS (b.drop n) m).1, (n : Int) + (rowS (b.drop n) m).2.1, (rowS (b.drop n) m).2.2) := by
  unfold semver_row.f
  by_cases h1 : (n : Int) ≥ (b.length : Int)
  · refine ev_pos h1 (ev_now ?_)
    rw [List.drop_eq_nil_of_le (by omega)]
    simp [rowS]
  · have hlt : n < b.length := by omega
    refine ev_neg h1 (ev_pos (by omega) (ev_pos (by omega) ?_))
    rw [List.drop_eq_getElem_cons hlt, rd_get b n hlt, rowS]
    by_cases h2 : b[n] = m
    · refine ev_pos h2 ?_
      rw [if_pos h2, wrap64_in (by omega) (by omega), show (n : Int) + 1 = ((n + 1 : Nat) : Int) by omega]
      refine ev_bind (Row02.row_ev b hb hl _ _) (ev_now ?_)
      rw [rowP_drop b (n + 1) (by omega)]
      have := rowP_n (b.drop (n + 1)) (m == 45)
      rw [List.length_drop] at this
      rw [wrap64_in (by omega) (by omega), show ((n + 1 : Nat) : Int) + (rowP (b.drop (n + 1)) 0 (m == 45)).2.1 = (n : Int) + (1 + (rowP (b.drop (n + 1)) 0 (m == 45)).2.1) by omega]
    · refine ev_neg h2 (ev_now ?_)
      rw [if_neg h2]
      simp

theorem rd_drop (b : List Int) (n : Nat) (i : Int) (hi : 0 ≤ i) : rd b ((n : Int) + i) = rd (b.drop n) i := by
  unfold rd
  rw [List.getD_eq_getElem?_getD, List.getD_eq_getElem?_getD, List.getElem?_drop, show ((n : Int) + i).toNat = n + i.toNat by omega]
section
variable (b : List Int) (hb : ∀ x ∈ b, 0 ≤ x ∧ x < 256) (hl : b.length ≤ 1000000000)
include hb hl
theorem rows_ev (n : Nat) (hn : n ≤ b.length) (x1 x2 x3 : Int) :
    Ev (fun k => (semver_row.f k b (n : Int) 45).bind fun bt133 => (if bt133.2.2 = 0 then ((semver_row.f k b bt133.2.1 43).bind fun bt138 => (if bt138.2.2 = 0 then (some (x1, x2, x3, bt133.1, bt138.1, bt138.2.1, (0 : Int))) else (some ((0 : Int), (0 : Int), (0 : Int), ([] : List ByteArray), ([] : List ByteArray), bt138.2.1, bt138.2.2)))) else (some ((0 : Int), (0 : Int), (0 : Int), ([] : List ByteArray), ([] : List ByteArray), bt133.2.1, bt133.2.2))))
      (endS (b.drop n) (n : Int) x1 x2 x3) := by
  have hr := rowS_n (b.drop n) 45
  rw [List.length_drop] at hr
  refine ev_bind (row_ev b hb hl n hn 45) ?_
  unfold endS
  by_cases h1 : (rowS (b.drop n) 45).2.2 = 0
  · refine ev_pos h1 ?_
    rw [if_pos h1]
    have e := row_ev b hb hl (n + (rowS (b.drop n) 45).2.1.toNat) (by omega) 43
    rw [show ((n + (rowS (b.drop n) 45).2.1.toNat : Nat) : Int) = (n : Int) + (rowS (b.drop n) 45).2.1 by omega, ← List.drop_drop] at e
    refine ev_bind e ?_
    by_cases h2 : (rowS ((b.drop n).drop (rowS (b.drop n) 45).2.1.toNat) 43).2.2 = 0
    · refine ev_pos h2 (ev_now ?_)
      rw [if_pos h2]
    · refine ev_neg h2 (ev_now ?_)
      rw [if_neg h2]; rfl
  · refine ev_neg h1 (ev_now ?_)
    rw [if_neg h1]; rfl
theorem l2_ev (n : Nat) (hn : n ≤ b.length) (m0 m1 m2 : Int) : Ev (fun k => semver_Parse.l0 k b (n : Int) 2 0 0 0 m0 m1 m2) (p2 (b.drop n) (n : Int) m0 m1) := by
  have hp := Num.parse_ev (l := b) (a := (n : Int)) hb (by omega)
  rw [np_drop b n hn] at hp
  have hle := np_le (b.drop n)
  rw [List.length_drop] at hle
  refine Ev.step (fun k => by rw [semver_Parse.l0]) (ev_bind hp ?_)
  unfold p2
  by_cases h1 : (np (b.drop n) 0).2.2 = 0
  · refine ev_pos h1 (ev_neg (by omega) ?_)
    rw [if_pos h1]
    refine Ev.step (fun k => by rw [semver_Parse.j2]) (ev_neg (by simp) (ev_neg (by omega) ?_))
    refine Ev.step (fun k => by rw [semver_Parse.j3]) (ev_neg (by omega) (ev_neg (by omega) (ev_pos rfl (ev_neg (by omega) ?_))))
    rw [wrap64_in (by omega) (by omega)]
    have := rows_ev b hb hl (n + (np (b.drop n) 0).2.1.toNat) (by omega) m0 m1 (np (b.drop n) 0).1
    rw [show ((n + (np (b.drop n) 0).2.1.toNat : Nat) : Int) = (n : Int) + (np (b.drop n) 0).2.1 by omega, ← List.drop_drop] at this
    exact this
  · refine ev_neg h1 (ev_now ?_)
    rw [if_neg h1]; rfl
theorem l1_ev (n : Nat) (hn : n ≤ b.length) (m0 m1 m2 : Int) : Ev (fun k => semver_Parse.l0 k b (n : Int) 1 0 0 0 m0 m1 m2) (p1 (b.drop n) (n : Int) m0) := by
  have hp := Num.parse_ev (l := b) (a := (n : Int)) hb (by omega)
  rw [np_drop b n hn] at hp
  have hle := np_le (b.drop n)
  rw [List.length_drop] at hle
  refine Ev.step (fun k => by rw [semver_Parse.l0]) (ev_bind hp ?_)
  unfold p1
  by_cases h1 : (np (b.drop n) 0).2.2 = 0
  · refine ev_pos h1 (ev_pos (by omega) ?_)
    rw [if_pos h1, wrap64_in (by omega) (by omega)]
    refine Ev.step (fun k => by rw [semver_Parse.j2]) ?_
    rw [wrap64_in (by omega) (by omega)]
    by_cases h2 : (np (b.drop n) 0).2.1 = ((b.drop n).length : Int)
    · rw [if_pos h2]
      rw [List.length_drop] at h2
      rw [beq_iff_eq.mpr (show (n : Int) + (np (b.drop n) 0).2.1 = (b.length : Int) by omega)]
      exact ev_pos rfl (ev_now rfl)
    · rw [if_neg h2]
      rw [List.length_drop] at h2
      rw [beq_eq_false_iff_ne.mpr (show ¬ (n : Int) + (np (b.drop n) 0).2.1 = (b.length : Int) by omega)]
      refine ev_neg (by simp) (ev_pos (by omega) (ev_pos (by omega) (ev_pos (by omega) ?_)))
      rw [rd_drop b n _ hle.1]
      by_cases h3 : rd (b.drop n) (np (b.drop n) 0).2.1 = 46
      · refine ev_pos h3 ?_
        rw [if_pos h3]
        refine Ev.step (fun k => by rw [semver_Parse.j3]) (ev_neg (by omega) (ev_pos rfl (ev_pos (by omega) ?_)))
        rw [wrap64_in (x := (n : Int) + (np (b.drop n) 0).2.1) (by omega) (by omega), wrap64_in (x := (n : Int) + (np (b.drop n) 0).2.1 + 1) (by omega) (by omega), show wrap64 (1 + 1) = 2 from wrap64_in (by omega) (by omega)]
        have := l2_ev b hb hl (n + ((np (b.drop n) 0).2.1.toNat + 1)) (by omega) m0 (np (b.drop n) 0).1 m2
        rw [show ((n + ((np (b.drop n) 0).2.1.toNat + 1) : Nat) : Int) = (n : Int) + (np (b.drop n) 0).2.1 + 1 by omega, ← List.drop_drop] at this
        exact this
      · refine ev_neg h3 (ev_now ?_)
        rw [if_neg h3]; rfl
  · refine ev_neg h1 (ev_now ?_)
    rw [if_neg h1]; rfl
theorem l0_ev (n : Nat) (hn : n ≤ b.length) (m0 m1 m2 : Int) : Ev (fun k => semver_Parse.l0 k b (n : Int) 0 0 0 0 m0 m1 m2) (p0 (b.drop n) (n : Int)) := by
  have hp := Num.parse_ev (l := b) (a := (n : Int)) hb (by omega)
  rw [np_drop b n hn] at hp
  have hle := np_le (b.drop n)
  rw [List.length_drop] at hle
  refine Ev.step (fun k => by rw [semver_Parse.l0]) (ev_bind hp ?_)
  unfold p0
  by_cases h1 : (np (b.drop n) 0).2.2 = 0
  · refine ev_pos h1 (ev_pos (by omega) ?_)
    rw [if_pos h1, wrap64_in (by omega) (by omega)]
    refine Ev.step (fun k => by rw [semver_Parse.j2]) ?_
    rw [wrap64_in (by omega) (by omega)]
    by_cases h2 : (np (b.drop n) 0).2.1 = ((b.drop n).length : Int)
    · rw [if_pos h2]
      rw [List.length_drop] at h2
      rw [beq_iff_eq.mpr (show (n : Int) + (np (b.drop n) 0).2.1 = (b.length : Int) by omega)]
      exact ev_pos rfl (ev_now rfl)
    · rw [if_neg h2]
      rw [List.length_drop] at h2
      rw [beq_eq_false_iff_ne.mpr (show ¬ (n : Int) + (np (b.drop n) 0).2.1 = (b.length : Int) by omega)]
      refine ev_neg (by simp) (ev_pos (by omega) (ev_pos (by omega) (ev_pos (by omega) ?_)))
      rw [rd_drop b n _ hle.1]
      by_cases h3 : rd (b.drop n) (np (b.drop n) 0).2.1 = 46
      · refine ev_pos h3 ?_
        rw [if_pos h3]
        refine Ev.step (fun k => by rw [semver_Parse.j3]) (ev_pos rfl (ev_pos (by omega) ?_))
        rw [wrap64_in (x := (n : Int) + (np (b.drop n) 0).2.1) (by omega) (by omega), wrap64_in (x := (n : Int) + (np (b.drop n) 0).2.1 + 1) (by omega) (by omega), show wrap64 (0 + 1) = 1 from wrap64_in (by omega) (by omega)]
        have := l1_ev b hb hl (n + ((np (b.drop n) 0).2.1.toNat + 1)) (by omega) (np (b.drop n) 0).1 m1 m2
        rw [show ((n + ((np (b.drop n) 0).2.1.toNat + 1) : Nat) : Int) = (n : Int) + (np (b.drop n) 0).2.1 + 1 by omega, ← List.drop_drop] at this
        exact this
      · refine ev_neg h3 (ev_now ?_)
        rw [if_neg h3]; rfl
  · refine ev_neg h1 (ev_now ?_)
    rw [if_neg h1]; rfl
theorem parse_ev (a : Int) : Ev (fun k => semver_Parse.f k b a) (parseP b a) := by
  unfold semver_Parse.f parseP
  have hj1 : Ev (fun k => semver_Parse.j0 k b a true 0 0 0) (no 0 1) := by
    refine Ev.step (fun k => by rw [semver_Parse.j0]) ?_
    exact ev_pos rfl (Ev.now _)
  by_cases h1 : a < 0
  · refine ev_pos h1 ?_
    rw [if_pos (.inl h1)]; exact hj1
  · refine ev_neg h1 ?_
    by_cases h2 : a > (b.length : Int)
    · rw [decide_eq_true h2, if_pos (.inr h2)]; exact hj1
    · rw [decide_eq_false h2, if_neg (by omega)]
      refine Ev.step (fun k => by rw [semver_Parse.j0]) (ev_neg (by simp) ?_)
      have := l0_ev b hb hl a.toNat (by omega) 0 0 0
      rw [show ((a.toNat : Nat) : Int) = a by omega] at this
      exact this
end

/-- The same, so many places on. -/
def sh (c : Int) (v : Ver) : Ver := (v.1, v.2.1, v.2.2.1, v.2.2.2.1, v.2.2.2.2.1, v.2.2.2.2.2.1 + c, v.2.2.2.2.2.2)
theorem sh_no (c o e : Int) : no (o + c) e = sh c (no o e) := rfl
theorem endS_sh (c : Int) (d : List Int) (o x1 x2 x3 : Int) : endS d (o + c) x1 x2 x3 = sh c (endS d o x1 x2 x3) := by
  unfold endS
  split
  · split
    · simp only [sh, Prod.mk.injEq, true_and, and_true]; omega
    · rw [← sh_no]; congr 1; omega
  · rw [← sh_no]; congr 1; omega
theorem p2_sh (c : Int) (d : List Int) (o m0 m1 : Int) : p2 d (o + c) m0 m1 = sh c (p2 d o m0 m1) := by
  unfold p2
  split
  · rw [← endS_sh]; congr 1; omega
  · rfl
theorem p1_sh (c : Int) (d : List Int) (o m0 : Int) : p1 d (o + c) m0 = sh c (p1 d o m0) := by
  unfold p1
  split
  · split
    · rw [← sh_no]; congr 1; omega
    · split
      · rw [← p2_sh]; congr 1; omega
      · rw [← sh_no]; congr 1; omega
  · rfl
theorem p0_sh (c : Int) (d : List Int) (o : Int) : p0 d (o + c) = sh c (p0 d o) := by
  unfold p0
  split
  · split
    · rw [← sh_no]; congr 1; omega
    · split
      · rw [← p1_sh]; congr 1; omega
      · rw [← sh_no]; congr 1; omega
  · rfl
def few (n : Nat) (v : Ver) : Prop := v.2.2.2.1.length ≤ n ∧ v.2.2.2.2.1.length ≤ n
theorem few_no (n : Nat) (o e : Int) : few n (no o e) := ⟨Nat.zero_le _, Nat.zero_le _⟩
theorem endS_few (n : Nat) (d : List Int) (hd : d.length < n) (o x1 x2 x3 : Int) : few n (endS d o x1 x2 x3) := by
  have h1 := rowS_l d 45
  have h2 := rowS_l (d.drop (rowS d 45).2.1.toNat) 43
  rw [List.length_drop] at h2
  unfold endS
  split
  · split
    · exact ⟨by simp only; omega, by simp only; omega⟩
    · exact few_no _ _ _
  · exact few_no _ _ _
theorem p0_few (n : Nat) (d : List Int) (hd : d.length < n) (o : Int) : few n (p0 d o) := by
  unfold p0 p1 p2
  (repeat' split) <;> first | exact few_no _ _ _ | (refine endS_few n _ ?_ _ _ _ _; simp only [List.length_drop]; omega)
theorem endS_n (d : List Int) (o x1 x2 x3 : Int) (h : 0 ≤ o) : 0 ≤ (endS d o x1 x2 x3).2.2.2.2.2.1 ∧ (endS d o x1 x2 x3).2.2.2.2.2.1 ≤ o + d.length := by
  have h1 := rowS_n d 45
  have h2 := rowS_n (d.drop (rowS d 45).2.1.toNat) 43
  rw [List.length_drop] at h2
  unfold endS
  split
  · split
    · simp only; omega
    · simp only [no]; omega
  · simp only [no]; omega
theorem p2_n (d : List Int) (o m0 m1 : Int) (h : 0 ≤ o) : 0 ≤ (p2 d o m0 m1).2.2.2.2.2.1 ∧ (p2 d o m0 m1).2.2.2.2.2.1 ≤ o + d.length := by
  have hn := np_le d
  unfold p2
  split
  · have := endS_n (d.drop (np d 0).2.1.toNat) (o + (np d 0).2.1) m0 m1 (np d 0).1 (by omega)
    rw [List.length_drop] at this
    omega
  · simp only [no]; omega
theorem p1_n (d : List Int) (o m0 : Int) (h : 0 ≤ o) : 0 ≤ (p1 d o m0).2.2.2.2.2.1 ∧ (p1 d o m0).2.2.2.2.2.1 ≤ o + d.length := by
  have hn := np_le d
  unfold p1
  split
  · split
    · simp only [no]; omega
    · split
      · have := p2_n (d.drop ((np d 0).2.1.toNat + 1)) (o + (np d 0).2.1 + 1) m0 (np d 0).1 (by omega)
        rw [List.length_drop] at this
        omega
      · simp only [no]; omega
  · simp only [no]; omega
theorem p0_n (d : List Int) (o : Int) (h : 0 ≤ o) : 0 ≤ (p0 d o).2.2.2.2.2.1 ∧ (p0 d o).2.2.2.2.2.1 ≤ o + d.length := by
  have hn := np_le d
  unfold p0
  split
  · split
    · simp only [no]; omega
    · split
      · have := p1_n (d.drop ((np d 0).2.1.toNat + 1)) (o + (np d 0).2.1 + 1) (np d 0).1 (by omega)
        rw [List.length_drop] at this
        omega
      · simp only [no]; omega
  · simp only [no]; omega
end Go.Proofs.YtildmfegfkiknaaDoor.Parse03

/- Numerals of numbers: their digits, their value; what the document's own writer tells. -/
namespace Go.Proofs.YtildmfegfkiknaaDoor.Text01
open Go.RowKit Go.Proofs.YtildmfegfkiknaaDoor.X Go.Proofs.YtildmfegfkiknaaDoorW.PrintWords Go.Proofs.YtildmfegfkiknaaDoorW.PrintLast Go.Proofs.YtildmfegfkiknaaDoor.Aid Go.Proofs.YtildmfegfkiknaaDoor.Digits Go.Proofs.YtildmfegfkiknaaDoor.Is01

def txt (v : Int) : ByteArray := ⟨(Lib.decDigits v.toNat).toArray⟩
def dig (v : Int) : List Int := (Lib.decDigits v.toNat).map fun c => (c.toNat : Int)
theorem bs_txt (v : Int) : bytesOf (txt v) = dig v := rfl
theorem dig_one {v : Int} (h0 : 0 ≤ v) (h : v < 10) : dig v = [48 + v] := by
  unfold dig
  rw [Lib.decDigits_one (by omega)]
  simp only [List.map_cons, List.map_nil, UInt8.toNat_ofNat']
  congr 1
  omega
theorem dig_more {v : Int} (h : 10 ≤ v) : dig v = dig (v / 10) ++ [48 + v % 10] := by
  unfold dig
  rw [Lib.decDigits, dif_neg (by omega), List.map_append]
  have e : v.toNat / 10 = (v / 10).toNat := by omega
  rw [e]
  simp only [List.map_cons, List.map_nil, UInt8.toNat_ofNat']
  congr 2
  omega
theorem dig_all (n : Nat) : ∀ v : Int, v.toNat ≤ n → 0 ≤ v → (∀ c ∈ dig v, isd c = true) ∧ val (dig v) = v ∧ 1 ≤ (dig v).length ∧ (1 ≤ v → rd (dig v) 0 ≠ 48) := by
  induction n with
  | zero =>
    intro v hn h0
    rw [dig_one h0 (by omega)]
    refine ⟨fun c hc => ?_, ?_, by simp, fun h => by omega⟩
    · rw [List.mem_singleton.mp hc, isd_iff]; omega
    · simp [val]; omega
  | succ n ih =>
    intro v hn h0
    by_cases h : v < 10
    · rw [dig_one h0 h]
      refine ⟨fun c hc => ?_, ?_, by simp, fun h1 => ?_⟩
      · rw [List.mem_singleton.mp hc, isd_iff]; omega
      · simp [val]; omega
      · show (48 + v : Int) ≠ 48
        omega
    · obtain ⟨i1, i2, i3, i4⟩ := ih (v / 10) (by omega) (by omega)
      rw [dig_more (by omega)]
      refine ⟨fun c hc => ?_, ?_, ?_, fun _ => ?_⟩
      · rcases List.mem_append.mp hc with hc | hc
        · exact i1 c hc
        · rw [List.mem_singleton.mp hc, isd_iff]; omega
      · rw [val_snoc, i2]; omega
      · rw [List.length_append]; omega
      · have := i4 (by omega)
        unfold rd at this ⊢
        rw [List.getD_eq_getElem?_getD] at this ⊢
        rw [List.getElem?_append_left (by exact i3)]
        exact this
theorem dig_isd {v : Int} (h0 : 0 ≤ v) : ∀ c ∈ dig v, isd c = true := (dig_all _ v (Nat.le_refl _) h0).1
theorem dig_val {v : Int} (h0 : 0 ≤ v) : val (dig v) = v := (dig_all _ v (Nat.le_refl _) h0).2.1
theorem dig_pos {v : Int} (h0 : 0 ≤ v) : 1 ≤ (dig v).length := (dig_all _ v (Nat.le_refl _) h0).2.2.1
theorem dig_lead {v : Int} (h0 : 1 ≤ v) : rd (dig v) 0 ≠ 48 := (dig_all _ v (Nat.le_refl _) (by omega)).2.2.2 h0
theorem dig_len (v : Int) (h : v < 18446744073709551616) : (dig v).length ≤ 20 := by
  unfold dig
  rw [List.length_map, Lib.decDigits_length]
  exact Lib.nDigits_le20 _ (by omega)
theorem dig_zero : dig 0 = [48] := dig_one (by omega) (by omega)
theorem dig_num {v : Int} (h0 : 0 ≤ v) : isNum (dig v) = true := by
  unfold isNum
  rw [Bool.and_eq_true]
  refine ⟨List.all_eq_true.mpr (dig_isd h0), ?_⟩
  by_cases h : v = 0
  · rw [h, dig_zero]; rfl
  · rw [decide_eq_true (dig_pos h0), decide_eq_true (dig_lead (v := v) (by omega))]; simp
theorem txt_size (v : Int) (h : v < 18446744073709551616) : (txt v).size ≤ 20 := by
  have := dig_len v h
  rwa [← bs_txt, bs_length] at this
theorem one_byte (x : Int) (h : 0 ≤ x ∧ x < 256) : bytesOf (strOfNums [x]) = [x] := bs_ofNums [x] (fun y hy => by rw [List.mem_singleton.mp hy]; exact h)

theorem ref_loop (n : Nat) : ∀ (v : Int) (rest s : ByteArray), v.toNat ≤ n → 0 ≤ v → v < 18446744073709551616 → bytesOf s = (48 + v % 10) :: bytesOf rest → rest.size + (dig v).length ≤ 1000 →
    Ev (fun k => ferruleref01_Text.l0 k v s) (txt v ++ rest) := by
  induction n with
  | zero =>
    intro v rest s hn h0 _ hs _
    refine Ev.step (fun k => by rw [ferruleref01_Text.l0]) (ev_neg (by omega) (ev_now ?_))
    refine bs_inj ?_
    rw [bs_append, bs_txt, dig_one h0 (by omega), hs, Int.emod_eq_of_lt h0 (by omega)]; rfl
  | succ n ih =>
    intro v rest s hn h0 hv hs hl
    refine Ev.step (fun k => by rw [ferruleref01_Text.l0]) ?_
    by_cases h : v > 9
    · refine ev_pos h (ev_bind (Ev.now _) ?_)
      have hm := dig_more (v := v) (by omega)
      have e1 : IntKind.u64.wrap (Int.tdiv v 10) = v / 10 := by rw [Int.tdiv_eq_ediv_of_nonneg h0, wrapu64_in (by omega) (by omega)]
      have e2 : IntKind.u64.wrap (48 + Int.tmod (v / 10) 10) % 256 = 48 + v / 10 % 10 := by
        rw [Int.tmod_eq_emod_of_nonneg (by omega), wrapu64_in (by omega) (by omega)]; omega
      rw [e1, e2]
      have hb : bytesOf (strOfNums [48 + v / 10 % 10] ++ s) = (48 + v / 10 % 10) :: bytesOf s := by rw [bs_append, one_byte _ (by omega)]; rfl
      have hss : s.size = rest.size + 1 := by
        have := congrArg List.length hs
        rwa [bs_length, List.length_cons, bs_length] at this
      have h1 : (strOfNums [48 + v / 10 % 10]).size = 1 := by
        have := congrArg List.length (one_byte (48 + v / 10 % 10) (by omega))
        rwa [bs_length] at this
      have hml : (dig v).length = (dig (v / 10)).length + 1 := by rw [hm, List.length_append]; rfl
      refine ev_pos (by omega) ?_
      have := ih (v / 10) s (strOfNums [48 + v / 10 % 10] ++ s) (by omega) (by omega) (by omega) hb (by omega)
      rw [show txt v ++ rest = txt (v / 10) ++ s from bs_inj (by rw [bs_append, bs_append, bs_txt, bs_txt, hm, hs, List.append_assoc]; rfl)]
      exact this
    · refine ev_neg h (ev_now ?_)
      refine bs_inj ?_
      rw [bs_append, bs_txt, dig_one h0 (by omega), hs, Int.emod_eq_of_lt h0 (by omega)]; rfl
theorem reftext_ev (v : Int) (h0 : 0 ≤ v) (h : v < 18446744073709551616) : Ev (fun k => ferruleref01_Text.f k v) (txt v) := by
  unfold ferruleref01_Text.f
  have e2 : IntKind.u64.wrap (48 + Int.tmod v 10) % 256 = 48 + v % 10 := by
    rw [Int.tmod_eq_emod_of_nonneg h0, wrapu64_in (by omega) (by omega)]; omega
  rw [e2]
  have := ref_loop _ v ByteArray.empty (strOfNums [48 + v % 10]) (Nat.le_refl _) h0 h (by rw [one_byte _ (by omega)]; rfl) (by have := dig_len v h; show 0 + _ ≤ _; omega)
  rwa [show txt v ++ ByteArray.empty = txt v from bs_inj (by rw [bs_append]; simp [bytesOf])] at this
end Go.Proofs.YtildmfegfkiknaaDoor.Text01

/- Which rows are good, and their texts: the program's functions and the document's come to plain ones. -/
namespace Go.Proofs.YtildmfegfkiknaaDoor.Good02
open Go.RowKit Go.Proofs.YtildmfegfkiknaaDoor.X Go.Proofs.YtildmfegfkiknaaDoorW.PrintWords Go.Proofs.YtildmfegfkiknaaDoorW.PrintMore Go.Proofs.YtildmfegfkiknaaDoor.Aid Go.Proofs.YtildmfegfkiknaaDoor.Digits Go.Proofs.YtildmfegfkiknaaDoor.Row02

/-- Good identifiers, from the i-th place on. -/
def goodL (pre : Bool) : List ByteArray → Nat → Bool
  | [], _ => true
  | x :: l, i => decide (chk x i pre = 0) && ((bytesOf x).all isB && goodL pre l (i + 1))
theorem rdOf_get (l : List ByteArray) (n : Nat) (h : n < l.length) : rdOf ByteArray.empty l (n : Int) = l[n] := by
  unfold rdOf
  rw [show ((n : Int)).toNat = n by omega, List.getD_eq_getElem?_getD, List.getElem?_eq_getElem h]
  rfl
theorem bt_in (s : ByteArray) (n : Nat) (h : n < s.size) : bt s (n : Int) = (bytesOf s)[n]'(by rw [bs_length]; exact h) ∧ 0 ≤ bt s (n : Int) ∧ bt s (n : Int) < 256 := by
  have e : bt s (n : Int) = (bytesOf s)[n]'(by rw [bs_length]; exact h) := by rw [bt_bs, rd_get _ n (by rw [bs_length]; exact h)]
  refine ⟨e, ?_⟩
  rw [e]
  exact bs_bytes s _ (List.getElem_mem _)
theorem size_at (l : List ByteArray) (hs : ∀ x ∈ l, x.size ≤ 300) (n : Nat) (h : n < l.length) : l[n].size ≤ 300 := hs _ (List.getElem_mem h)
section
variable (l : List ByteArray) (pre : Bool) (hl : l.length ≤ 40) (hs : ∀ x ∈ l, x.size ≤ 300)
include hl hs
theorem good_l1 (n : Nat) (hn : n < l.length) (g : Bool) (hg : Ev (fun k => ident_Good.l0 k pre l (l.length : Int) ((n + 1 : Nat) : Int)) g) (d : Nat) : ∀ j : Nat, l[n].size - j = d → j ≤ l[n].size →
    Ev (fun k => ident_Good.l1 k pre l[n] l (l.length : Int) (n : Int) (l[n].size : Int) (j : Int)) (((bytesOf l[n]).drop j).all isB && g) := by
  have hsz := size_at l hs n hn
  have hbl := bs_length l[n]
  induction d with
  | zero =>
    intro j hd hj
    refine Ev.step (fun k => by rw [ident_Good.l1]) (ev_neg (by omega) ?_)
    rw [wrap64_in (by omega) (by omega), List.drop_eq_nil_of_le (by omega), show (n : Int) + 1 = ((n + 1 : Nat) : Int) by omega]
    exact hg
  | succ d ih =>
    intro j hd hj
    have hlt : j < l[n].size := by omega
    obtain ⟨e, hb⟩ := bt_in l[n] j hlt
    refine Ev.step (fun k => by rw [ident_Good.l1]) (ev_pos (by omega) (ev_pos (by omega) (ev_pos (by omega) ?_)))
    rw [isByte_eq _ hb, e, List.drop_eq_getElem_cons (show j < (bytesOf l[n]).length by omega), List.all_cons]
    refine ev_bind (Ev.now _) ?_
    cases h : isB ((bytesOf l[n])[j]'(by omega)) with
    | true =>
      refine ev_pos rfl ?_
      rw [wrap64_in (by omega) (by omega), show (j : Int) + 1 = ((j + 1 : Nat) : Int) by omega, Bool.true_and]
      exact ih (j + 1) (by omega) (by omega)
    | false => exact ev_neg (by simp) (Ev.now _)
theorem good_l0 (d : Nat) : ∀ n : Nat, l.length - n = d → n ≤ l.length → Ev (fun k => ident_Good.l0 k pre l (l.length : Int) (n : Int)) (goodL pre (l.drop n) n) := by
  induction d with
  | zero =>
    intro n hd hn
    refine Ev.step (fun k => by rw [ident_Good.l0]) (ev_neg (by omega) (ev_now ?_))
    rw [List.drop_eq_nil_of_le (by omega)]; rfl
  | succ d ih =>
    intro n hd hn
    have hlt : n < l.length := by omega
    have hsz := size_at l hs n hlt
    refine Ev.step (fun k => by rw [ident_Good.l0]) (ev_pos (by omega) (ev_pos (by omega) (ev_pos (by omega) ?_)))
    rw [rdOf_get l n hlt, List.drop_eq_getElem_cons hlt, goodL]
    refine ev_bind (check_ev l[n] (by omega) n pre) ?_
    by_cases h : chk l[n] n pre = 0
    · refine ev_pos h ?_
      rw [decide_eq_true h, Bool.true_and]
      have := good_l1 l pre hl hs n hlt _ (ih (n + 1) (by omega) (by omega)) _ 0 rfl (by omega)
      rwa [List.drop_zero] at this
    · refine ev_neg h (ev_now ?_)
      rw [decide_eq_false h, Bool.false_and]
theorem good_ev : Ev (fun k => ident_Good.f k l pre) (goodL pre l 0) := by
  unfold ident_Good.f
  exact good_l0 l pre hl hs _ 0 rfl (by omega)
theorem ref_l1 (n : Nat) (hn : n < l.length) (g : Bool) (hg : Ev (fun k => ferruleref02_Good.l0 k l pre ((n + 1 : Nat) : Int)) g) (d : Nat) : ∀ j : Nat, l[n].size - j = d → j ≤ l[n].size →
    Ev (fun k => ferruleref02_Good.l1 k l pre (n : Int) (j : Int)) (((bytesOf l[n]).drop j).all isB && g) := by
  have hsz := size_at l hs n hn
  have hbl := bs_length l[n]
  have hrd := rdOf_get l n hn
  induction d with
  | zero =>
    intro j hd hj
    refine Ev.step (fun k => by rw [ferruleref02_Good.l1]) (ev_pos (by omega) (ev_pos (by omega) (ev_neg (by rw [hrd]; omega) ?_)))
    rw [wrap64_in (by omega) (by omega), List.drop_eq_nil_of_le (by omega), show (n : Int) + 1 = ((n + 1 : Nat) : Int) by omega]
    exact hg
  | succ d ih =>
    intro j hd hj
    have hlt : j < l[n].size := by omega
    obtain ⟨e, hb⟩ := bt_in l[n] j hlt
    refine Ev.step (fun k => by rw [ferruleref02_Good.l1]) (ev_pos (by omega) (ev_pos (by omega) (ev_pos (by rw [hrd]; omega) (ev_pos (by omega) ?_))))
    rw [hrd, byte_eq _ hb, e, List.drop_eq_getElem_cons (show j < (bytesOf l[n]).length by omega), List.all_cons]
    refine ev_bind (Ev.now _) ?_
    cases h : isB ((bytesOf l[n])[j]'(by omega)) with
    | true =>
      refine ev_pos rfl ?_
      rw [wrap64_in (by omega) (by omega), show (j : Int) + 1 = ((j + 1 : Nat) : Int) by omega, Bool.true_and]
      exact ih (j + 1) (by omega) (by omega)
    | false => exact ev_neg (by simp) (Ev.now _)
theorem ref_l0 (d : Nat) : ∀ n : Nat, l.length - n = d → n ≤ l.length → Ev (fun k => ferruleref02_Good.l0 k l pre (n : Int)) (goodL pre (l.drop n) n) := by
  induction d with
  | zero =>
    intro n hd hn
    refine Ev.step (fun k => by rw [ferruleref02_Good.l0]) (ev_neg (by omega) (ev_now ?_))
    rw [List.drop_eq_nil_of_le (by omega)]; rfl
  | succ d ih =>
    intro n hd hn
    have hlt : n < l.length := by omega
    have hsz := size_at l hs n hlt
    refine Ev.step (fun k => by rw [ferruleref02_Good.l0]) (ev_pos (by omega) (ev_pos (by omega) ?_))
    rw [rdOf_get l n hlt, List.drop_eq_getElem_cons hlt, goodL]
    refine ev_bind (wrong_ev l[n] (by omega) n pre) ?_
    by_cases h : chk l[n] n pre = 0
    · refine ev_pos h ?_
      rw [decide_eq_true h, Bool.true_and]
      have := ref_l1 l pre hl hs n hlt _ (ih (n + 1) (by omega) (by omega)) _ 0 rfl (by omega)
      rwa [List.drop_zero] at this
    · refine ev_neg h (ev_now ?_)
      rw [decide_eq_false h, Bool.false_and]
theorem refgood_ev : Ev (fun k => ferruleref02_Good.f k l pre) (goodL pre l 0) := by
  unfold ferruleref02_Good.f
  exact ref_l0 l pre hl hs _ 0 rfl (by omega)
end

/-- The text of a row. -/
def textL (l : List ByteArray) : ByteArray := ⟨(Lib.join (l.map (·.data.toList)) [46]).toArray⟩
/-- The text behind an identifier. -/
def tailL : List ByteArray → List Int
  | [] => []
  | x :: l => 46 :: (bytesOf x ++ tailL l)
theorem bs_text (x : ByteArray) (l : List ByteArray) : bytesOf (textL (x :: l)) = bytesOf x ++ tailL l := by
  unfold textL
  rw [List.map_cons, Lib.join_cons]
  show ((x.data.toList ++ Lib.joinTail [46] (l.map (·.data.toList))).map fun c => (c.toNat : Int)) = _
  rw [List.map_append]
  congr 1
  induction l with
  | nil => rfl
  | cons y l ih =>
    rw [List.map_cons]
    unfold Lib.joinTail at ih ⊢
    rw [List.map_cons, List.flatten_cons, List.map_append, ih, tailL]
    rfl
theorem tail_len (l : List ByteArray) (hs : ∀ x ∈ l, x.size ≤ 300) : (tailL l).length ≤ 301 * l.length := by
  induction l with
  | nil => exact Nat.le_refl _
  | cons x l ih =>
    have := ih (fun y hy => hs y (List.mem_cons_of_mem _ hy))
    have := hs x List.mem_cons_self
    rw [tailL, List.length_cons, List.length_append, bs_length, List.length_cons]
    omega
theorem text_len (l : List ByteArray) (hl : l.length ≤ 40) (hs : ∀ x ∈ l, x.size ≤ 300) : (textL l).size ≤ 12040 := by
  rw [← bs_length]
  cases l with
  | nil => exact Nat.zero_le _
  | cons x l =>
    have h1 := tail_len l (fun y hy => hs y (List.mem_cons_of_mem _ hy))
    have h2 := hs x List.mem_cons_self
    rw [List.length_cons] at hl
    rw [bs_text, List.length_append, bs_length]
    omega
theorem text_some (l : List ByteArray) (hl : l.length ≤ 40) (hs : ∀ x ∈ l, x.size ≤ 300) : ident_Text.f l = some (textL l) := by
  unfold ident_Text.f strings_Join.f
  have h := text_len l hl hs
  have e : (Lib.join (l.map (·.data.toList)) [46]).length = (textL l).size := rfl
  rw [if_pos ⟨by omega, by show (Lib.join (l.map (·.data.toList)) [46]).length ≤ _; omega⟩]
  rfl
theorem reftext_l0 (l : List ByteArray) (hl : l.length ≤ 40) (hs : ∀ x ∈ l, x.size ≤ 300) (d : Nat) : ∀ (n : Nat) (s : ByteArray), l.length - n = d → 1 ≤ n → n ≤ l.length → s.size ≤ 301 * n →
    ∃ r, Ev (fun k => ferruleref02_Text.l0 k l s (n : Int)) r ∧ bytesOf r = bytesOf s ++ tailL (l.drop n) := by
  induction d with
  | zero =>
    intro n s hd h1 hn hsz
    refine ⟨s, Ev.step (fun k => by rw [ferruleref02_Text.l0]) (ev_neg (by omega) (Ev.now _)), ?_⟩
    rw [List.drop_eq_nil_of_le (by omega), tailL, List.append_nil]
  | succ d ih =>
    intro n s hd h1 hn hsz
    have hlt : n < l.length := by omega
    have hsn := hs _ (List.getElem_mem hlt)
    have hz : ((s ++ (⟨#[46]⟩ : ByteArray)) ++ l[n]).size = s.size + 1 + l[n].size := by
      rw [← bs_length, bs_append, bs_append, List.length_append, List.length_append, bs_length, bs_length, bs_length]; rfl
    obtain ⟨r, he, hr⟩ := ih (n + 1) ((s ++ (⟨#[46]⟩ : ByteArray)) ++ l[n]) (by omega) (by omega) (by omega) (by omega)
    refine ⟨r, Ev.step (fun k => by rw [ferruleref02_Text.l0]) ?_, ?_⟩
    · refine ev_pos (by omega) (ev_pos (by omega) (ev_pos (by omega) (ev_pos (by omega) ?_)))
      rw [rdOf_get l n hlt, wrap64_in (by omega) (by omega), show (n : Int) + 1 = ((n + 1 : Nat) : Int) by omega]
      exact ev_pos (by omega) he
    · rw [hr, bs_append, bs_append, List.drop_eq_getElem_cons hlt, tailL, List.append_assoc, List.append_assoc]
      rfl
theorem reftext_ev (l : List ByteArray) (hl : l.length ≤ 40) (hs : ∀ x ∈ l, x.size ≤ 300) : Ev (fun k => ferruleref02_Text.f k l) (textL l) := by
  unfold ferruleref02_Text.f
  cases l with
  | nil =>
    refine Ev.step (fun k => by rw [ferruleref02_Text.l0]) ?_
    exact ev_neg (by simp) (ev_now rfl)
  | cons x l =>
    have hx := hs x List.mem_cons_self
    obtain ⟨r, he, hr⟩ := reftext_l0 (x :: l) hl hs _ 1 ((⟨#[]⟩ : ByteArray) ++ x) rfl (Nat.le_refl _) (by simp) (by rw [← bs_length, bs_append, List.length_append, bs_length, bs_length]; show 0 + _ ≤ _; omega)
    rw [show r = textL (x :: l) from bs_inj (by rw [hr, bs_text, bs_append]; rfl)] at he
    refine Ev.step (fun k => by rw [ferruleref02_Text.l0]) ?_
    refine ev_pos (by simp) (ev_neg (by omega) (ev_pos (by omega) ?_))
    rw [show rdOf ByteArray.empty (x :: l) 0 = x from rfl, wrap64_in (by omega) (by omega)]
    exact ev_pos (by show 0 + x.size ≤ _; omega) he
/-- What a good row's text is read as. -/
theorem go_word (pre : Bool) (x rest : List Int) (hx : x.all isB = true) : ∀ (w : List Int) (l : List ByteArray) (n : Int), go pre (x ++ rest) w l n = go pre rest (w ++ x) l (n + x.length) := by
  induction x with
  | nil => intro w l n; simp
  | cons c x ih =>
    intro w l n
    rw [List.all_cons, Bool.and_eq_true] at hx
    rw [List.cons_append, go, if_pos hx.1, ih hx.2, List.append_assoc, List.length_cons]
    congr 1
    omega
theorem str_bs (x : ByteArray) : strOfNums (bytesOf x) = x := bs_inj (bs_ofNums _ (bs_bytes x))
theorem go_tail (pre : Bool) (e : Int) (he : isB e = false) (he2 : e ≠ 46) (rest : List Int) (t : List ByteArray) : ∀ (x : ByteArray) (l : List ByteArray) (n : Int), goodL pre (x :: t) l.length = true →
    go pre (bytesOf x ++ (tailL t ++ e :: rest)) [] l n = (l ++ x :: t, n + (bytesOf x ++ tailL t).length, 0) := by
  induction t with
  | nil =>
    intro x l n hg
    simp only [goodL, Bool.and_eq_true, decide_eq_true_eq] at hg
    rw [go_word pre _ _ hg.2.1, List.nil_append, tailL, List.nil_append, go, if_neg (by rw [he]; simp), str_bs, if_pos hg.1, if_neg he2, List.append_nil]
  | cons y t ih =>
    intro x l n hg
    rw [goodL, Bool.and_eq_true, Bool.and_eq_true, decide_eq_true_eq] at hg
    rw [go_word pre _ _ hg.2.1, List.nil_append, tailL, List.cons_append, go, if_neg (by rw [isB_dot]; simp), str_bs, if_pos hg.1, if_pos rfl, List.append_assoc, ih y (l ++ [x]) _ (by rw [List.length_append]; exact hg.2.2)]
    simp only [List.append_assoc, List.singleton_append, List.length_append, List.length_cons, Prod.mk.injEq, true_and, and_true]
    omega
theorem row_back (pre : Bool) (e : Int) (he : isB e = false) (he2 : e ≠ 46) (x : ByteArray) (t : List ByteArray) (rest : List Int) (hg : goodL pre (x :: t) 0 = true) :
    rowP (bytesOf (textL (x :: t)) ++ e :: rest) 0 pre = (x :: t, ((textL (x :: t)).size : Int), 0) := by
  unfold rowP
  rw [if_neg (by omega), show (0 : Int).toNat = 0 from rfl, List.drop_zero, bs_text, List.append_assoc, go_tail pre e he he2 rest t x [] 0 hg, ← bs_length, bs_text]
  simp
end Go.Proofs.YtildmfegfkiknaaDoor.Good02

/- A version's text, read: what stands in it. Plain lists; no program's function but those that came to plain ones. -/
namespace Go.Proofs.YtildmfegfkiknaaDoor.Back03
open Go.RowKit Go.Proofs.YtildmfegfkiknaaDoorW.PrintWords Go.Proofs.YtildmfegfkiknaaDoorW.PrintMore Go.Proofs.YtildmfegfkiknaaDoor.Aid Go.Proofs.YtildmfegfkiknaaDoor.Digits Go.Proofs.YtildmfegfkiknaaDoor.Row02 Go.Proofs.YtildmfegfkiknaaDoor.Parse03 Go.Proofs.YtildmfegfkiknaaDoor.Text01 Go.Proofs.YtildmfegfkiknaaDoor.Good02

/-- Nothing, or no digit first. -/
def noDig (r : List Int) : Prop := ∀ c t, r = c :: t → isd c = false
theorem run_rest (d r : List Int) (hd : ∀ c ∈ d, isd c = true) (hr : noDig r) : run (d ++ r) = d := by
  unfold run
  induction d with
  | nil =>
    cases r with
    | nil => rfl
    | cons c t => rw [List.nil_append, List.takeWhile_cons, if_neg (by rw [hr c t rfl]; simp)]
  | cons c d ih => rw [List.cons_append, List.takeWhile_cons, if_pos (hd c List.mem_cons_self), ih (fun x hx => hd x (List.mem_cons_of_mem _ hx))]
theorem np_rest (v : Int) (r : List Int) (h0 : 0 ≤ v) (h1 : v ≤ maxF) (hr : noDig r) : np (dig v ++ r) 0 = (v, ((dig v).length : Int), 0) := by
  have hp := dig_pos h0
  unfold np
  rw [if_neg (by omega), show (0 : Int).toNat = 0 from rfl, List.drop_zero, run_rest _ _ (dig_isd h0) hr, if_neg (by omega), if_neg ?_, dig_val h0, if_neg (by omega)]
  rintro ⟨h1, h2⟩
  by_cases hv : v = 0
  · rw [hv, dig_zero] at h1
    exact absurd h1 (by decide)
  · exact dig_lead (v := v) (by omega) h2
theorem drop_mark (d r : List Int) (c : Int) : (d ++ c :: r).drop (d.length + 1) = r := by
  rw [show d ++ c :: r = (d ++ [c]) ++ r by simp, List.drop_append_of_le_length (by simp)]
  simp
theorem rd_mark (d r : List Int) (c : Int) : rd (d ++ c :: r) (d.length : Int) = c := by
  unfold rd
  rw [show ((d.length : Int)).toNat = d.length by omega, List.getD_eq_getElem?_getD, List.getElem?_append_right (Nat.le_refl _), Nat.sub_self]
  rfl
/-- A good row's text, to the end. -/
theorem go_end (pre : Bool) (t : List ByteArray) : ∀ (x : ByteArray) (l : List ByteArray) (n : Int), goodL pre (x :: t) l.length = true →
    go pre (bytesOf x ++ tailL t) [] l n = (l ++ x :: t, n + (bytesOf x ++ tailL t).length, 0) := by
  induction t with
  | nil =>
    intro x l n hg
    simp only [goodL, Bool.and_eq_true, decide_eq_true_eq] at hg
    rw [tailL, go_word pre _ _ hg.2.1, List.nil_append, go, str_bs, if_pos hg.1, List.append_nil]
  | cons y t ih =>
    intro x l n hg
    rw [goodL, Bool.and_eq_true, Bool.and_eq_true, decide_eq_true_eq] at hg
    rw [go_word pre _ _ hg.2.1, List.nil_append, tailL, go, if_neg (by rw [isB_dot]; simp), str_bs, if_pos hg.1, if_pos rfl, ih y (l ++ [x]) _ (by rw [List.length_append]; exact hg.2.2)]
    simp only [List.append_assoc, List.singleton_append, List.length_append, List.length_cons, Prod.mk.injEq, true_and, and_true]
    omega
theorem row_end (pre : Bool) (x : ByteArray) (t : List ByteArray) (hg : goodL pre (x :: t) 0 = true) :
    rowP (bytesOf (textL (x :: t))) 0 pre = (x :: t, ((textL (x :: t)).size : Int), 0) := by
  unfold rowP
  rw [if_neg (by omega), show (0 : Int).toNat = 0 from rfl, List.drop_zero, bs_text, go_end pre t x [] 0 hg, ← bs_length, bs_text]
  simp
def markV (m : Int) (q : List ByteArray) : List Int := if q = [] then [] else m :: bytesOf (textL q)
def markN (q : List ByteArray) : Int := if q = [] then 0 else 1 + ((textL q).size : Int)
theorem mark_len (m : Int) (q : List ByteArray) : ((markV m q).length : Int) = markN q := by
  unfold markV markN
  split
  · rfl
  · rw [List.length_cons, bs_length]; omega
theorem rowS_mark (m : Int) (q : List ByteArray) (hq : goodL (m == 45) q 0 = true) (R : List Int) (hR : R = [] ∨ ∃ e r, R = e :: r ∧ isB e = false ∧ e ≠ 46 ∧ e ≠ m) :
    rowS (markV m q ++ R) m = (q, markN q, 0) := by
  cases q with
  | nil =>
    rw [markV, if_pos rfl, markN, if_pos rfl, List.nil_append]
    rcases hR with rfl | ⟨e, r, rfl, _, _, he⟩
    · rfl
    · simp only [rowS]
      rw [if_neg he]
  | cons x t =>
    rw [markV, if_neg (by simp), markN, if_neg (by simp), List.cons_append]
    simp only [rowS, if_true]
    rcases hR with rfl | ⟨e, r, rfl, h1, h2, _⟩
    · rw [List.append_nil, row_end _ x t hq]
    · rw [row_back _ e h1 h2 x t r hq]
theorem drop_len (a b : List Int) (n : Nat) (h : a.length = n) : (a ++ b).drop n = b := by
  rw [← h, List.drop_append_of_le_length (Nat.le_refl _), List.drop_length, List.nil_append]
theorem ends_back (p q : List ByteArray) (hp : goodL true p 0 = true) (hq : goodL false q 0 = true) (o x1 x2 x3 : Int) :
    endS (markV 45 p ++ markV 43 q) o x1 x2 x3 = (x1, x2, x3, p, q, o + ((markV 45 p ++ markV 43 q).length : Int), 0) := by
  have hQ : markV 43 q = [] ∨ ∃ e r, markV 43 q = e :: r ∧ isB e = false ∧ e ≠ 46 ∧ e ≠ 45 := by
    unfold markV
    split
    · exact .inl rfl
    · exact .inr ⟨43, _, rfl, by decide, by decide, by decide⟩
  have h1 := rowS_mark 45 p hp (markV 43 q) hQ
  have h2 := rowS_mark 43 q hq [] (.inl rfl)
  rw [List.append_nil] at h2
  unfold endS
  rw [h1]
  simp only [if_true]
  rw [drop_len (markV 45 p) (markV 43 q) (markN p).toNat (by have := mark_len 45 p; omega), h2]
  simp only [if_true]
  rw [List.length_append]
  have l1 := mark_len 45 p
  have l2 := mark_len 43 q
  simp only [Prod.mk.injEq, true_and, and_true]
  omega
def textI (a0 a1 a2 : Int) (p q : List ByteArray) : List Int := dig a0 ++ 46 :: (dig a1 ++ 46 :: (dig a2 ++ (markV 45 p ++ markV 43 q)))
theorem nodig_mark (p q : List ByteArray) : noDig (markV 45 p ++ markV 43 q) := by
  intro c t h
  unfold markV at h
  by_cases hp : p = []
  · rw [if_pos hp, List.nil_append] at h
    by_cases hq : q = []
    · rw [if_pos hq] at h; cases h
    · rw [if_neg hq] at h; injection h with h _; rw [← h]; decide
  · rw [if_neg hp] at h; injection h with h _; rw [← h]; decide
theorem nodig_dot (r : List Int) : noDig (46 :: r) := by
  intro c t h
  injection h with h _; rw [← h]; decide
theorem back (a0 a1 a2 : Int) (p q : List ByteArray) (h0 : 0 ≤ a0 ∧ a0 ≤ maxF) (h1 : 0 ≤ a1 ∧ a1 ≤ maxF) (h2 : 0 ≤ a2 ∧ a2 ≤ maxF) (hp : goodL true p 0 = true) (hq : goodL false q 0 = true) :
    p0 (textI a0 a1 a2 p q) 0 = (a0, a1, a2, p, q, ((textI a0 a1 a2 p q).length : Int), 0) := by
  have e0 := np_rest a0 (46 :: (dig a1 ++ 46 :: (dig a2 ++ (markV 45 p ++ markV 43 q)))) h0.1 h0.2 (nodig_dot _)
  have e1 := np_rest a1 (46 :: (dig a2 ++ (markV 45 p ++ markV 43 q))) h1.1 h1.2 (nodig_dot _)
  have e2 := np_rest a2 (markV 45 p ++ markV 43 q) h2.1 h2.2 (nodig_mark p q)
  have k0 : (((dig a0).length : Int)).toNat + 1 = (dig a0).length + 1 := by omega
  have k1 : (((dig a1).length : Int)).toNat + 1 = (dig a1).length + 1 := by omega
  have k2 : (((dig a2).length : Int)).toNat = (dig a2).length := by omega
  have hl : (textI a0 a1 a2 p q).length = (dig a0).length + 1 + ((dig a1).length + 1 + ((dig a2).length + (markV 45 p ++ markV 43 q).length)) := by
    unfold textI
    simp only [List.length_append, List.length_cons]
    omega
  rw [hl]
  unfold textI p0
  rw [e0]
  simp only [if_true]
  rw [if_neg (by simp only [List.length_append, List.length_cons]; omega), rd_mark, if_pos rfl, k0, drop_mark]
  unfold p1
  rw [e1]
  simp only [if_true]
  rw [if_neg (by simp only [List.length_append, List.length_cons]; omega), rd_mark, if_pos rfl, k1, drop_mark]
  unfold p2
  rw [e2]
  simp only [if_true]
  rw [k2, drop_len _ _ _ rfl, ends_back p q hp hq]
  simp only [Prod.mk.injEq, true_and, and_true]
  omega
end Go.Proofs.YtildmfegfkiknaaDoor.Back03

/- What the program's own writer of numbers comes to. -/
namespace Go.Proofs.YtildmfegfkiknaaDoor.Text01
open Go.RowKit Go.Proofs.YtildmfegfkiknaaDoor.X Go.Proofs.YtildmfegfkiknaaDoorW.PrintWords Go.Proofs.YtildmfegfkiknaaDoorW.PrintLast
theorem text_some (a : Int) (h0 : 0 ≤ a) (h : a < 18446744073709551616) : num_Text.f a = some (txt a) := by
  have e : num_Text.f a = ((if (10 : Int) = 10 ∧ 0 ≤ a ∧ a < 18446744073709551616 then some (txt a) else none).bind fun t => some t).bind fun t => some t := rfl
  rw [e, if_pos ⟨rfl, h0, h⟩]; rfl
end Go.Proofs.YtildmfegfkiknaaDoor.Text01

/- A version's text: the program's writer and the document's come to one plain list of numbers. -/
namespace Go.Proofs.YtildmfegfkiknaaDoor.Text03
open Go.RowKit Go.Proofs.YtildmfegfkiknaaDoor.X Go.Proofs.YtildmfegfkiknaaDoorW.PrintWords Go.Proofs.YtildmfegfkiknaaDoorW.PrintMore Go.Proofs.YtildmfegfkiknaaDoor.Aid Go.Proofs.YtildmfegfkiknaaDoor.Digits Go.Proofs.YtildmfegfkiknaaDoor.Back03 Go.Proofs.YtildmfegfkiknaaDoor.Text01

def vt (a0 a1 a2 : Int) (p q : List ByteArray) : ByteArray :=
  ((((((txt a0 ++ ⟨#[46]⟩) ++ txt a1) ++ ⟨#[46]⟩) ++ txt a2) ++ (if p.length = 0 then ⟨#[]⟩ else ⟨#[45]⟩ ++ Good02.textL p)) ++ (if q.length = 0 then ⟨#[]⟩ else ⟨#[43]⟩ ++ Good02.textL q))
theorem bs_row (m : UInt8) (q : List ByteArray) : bytesOf (if q.length = 0 then ⟨#[]⟩ else ⟨#[m]⟩ ++ Good02.textL q) = markV (m.toNat : Int) q := by
  unfold markV
  cases q with
  | nil => rfl
  | cons x t => rw [if_neg (by simp), if_neg (by simp), bs_append]; rfl
theorem bs_vt (a0 a1 a2 : Int) (p q : List ByteArray) : bytesOf (vt a0 a1 a2 p q) = textI a0 a1 a2 p q := by
  unfold vt textI
  rw [bs_append, bs_append, bs_append, bs_append, bs_append, bs_append, bs_txt, bs_txt, bs_txt, bs_row, bs_row]
  show ((((((dig a0 ++ [46]) ++ dig a1) ++ [46]) ++ dig a2) ++ markV 45 p) ++ markV 43 q) = _
  simp
section
variable (a0 a1 a2 : Int) (p q : List ByteArray) (h0 : 0 ≤ a0 ∧ a0 < 18446744073709551616) (h1 : 0 ≤ a1 ∧ a1 < 18446744073709551616) (h2 : 0 ≤ a2 ∧ a2 < 18446744073709551616)
  (lp : p.length ≤ 40) (sp : ∀ x ∈ p, x.size ≤ 300) (lq : q.length ≤ 40) (sq : ∀ x ∈ q, x.size ≤ 300)
include h0 h1 h2 lp sp lq sq
theorem vtext_some : semver_Text.f a0 a1 a2 p q = some (vt a0 a1 a2 p q) := by
  have z0 := txt_size a0 h0.2
  have z1 := txt_size a1 h1.2
  have z2 := txt_size a2 h2.2
  have zp := Good02.text_len p lp sp
  have zq := Good02.text_len q lq sq
  unfold semver_Text.f
  rw [text_some a0 h0.1 h0.2, text_some a1 h1.1 h1.2, text_some a2 h2.1 h2.2, Good02.text_some p lp sp, Good02.text_some q lq sq]
  simp only [Option.bind_some]
  rw [if_pos (by omega)]
  rfl
theorem refvtext_ev : Ev (fun k => ferruleref03_Text.f k a0 a1 a2 p q) (vt a0 a1 a2 p q) := by
  have z0 := txt_size a0 h0.2
  have z1 := txt_size a1 h1.2
  have z2 := txt_size a2 h2.2
  have zp := Good02.text_len p lp sp
  have zq := Good02.text_len q lq sq
  unfold ferruleref03_Text.f
  refine ev_bind (reftext_ev a0 h0.1 h0.2) (ev_pos (by omega) (ev_bind (reftext_ev a1 h1.1 h1.2) (ev_pos (by omega) (ev_pos (by omega) (ev_bind (reftext_ev a2 h2.1 h2.2) (ev_pos (by omega) ?_))))))
  by_cases c1 : (p.length : Int) > 0
  · refine ev_pos c1 (ev_pos (by omega) (ev_bind (Good02.reftext_ev p lp sp) (ev_pos (by omega) ?_)))
    by_cases c2 : (q.length : Int) > 0
    · refine ev_pos c2 (ev_pos (by omega) (ev_bind (Good02.reftext_ev q lq sq) (ev_pos (by omega) (ev_now ?_))))
      refine bs_inj ?_
      unfold vt
      rw [if_neg (by omega), if_neg (by omega)]
      simp only [bs_append, List.append_assoc]
    · refine ev_neg c2 (ev_now ?_)
      refine bs_inj ?_
      unfold vt
      rw [if_neg (by omega), if_pos (show q.length = 0 by omega)]
      simp only [bs_append, List.append_assoc]
      simp [bytesOf]
  · refine ev_neg c1 ?_
    by_cases c2 : (q.length : Int) > 0
    · refine ev_pos c2 (ev_pos (by omega) (ev_bind (Good02.reftext_ev q lq sq) (ev_pos (by omega) (ev_now ?_))))
      refine bs_inj ?_
      unfold vt
      rw [if_pos (show p.length = 0 by omega), if_neg (by omega)]
      simp only [bs_append, List.append_assoc]
      simp [bytesOf]
    · refine ev_neg c2 (ev_now ?_)
      refine bs_inj ?_
      unfold vt
      rw [if_pos (show p.length = 0 by omega), if_pos (show q.length = 0 by omega)]
      simp only [bs_append, List.append_assoc]
      simp [bytesOf]
end
end Go.Proofs.YtildmfegfkiknaaDoor.Text03

/- The document's Parse (ferruleref01) comes to the same plain function. -/
namespace Go.Proofs.YtildmfegfkiknaaDoor.Ref01
open Go.RowKit Go.Proofs.YtildmfegfkiknaaDoorW.PrintWords Go.Proofs.YtildmfegfkiknaaDoor.Aid Go.Proofs.YtildmfegfkiknaaDoor.Digits Go.Proofs.YtildmfegfkiknaaDoor.X

def most : List Int := [57, 50, 50, 51, 51, 55, 50, 48, 51, 54, 56, 53, 52, 55, 55, 53, 56, 48, 55]
theorem most_val : val most = maxF := by decide
theorem most_isd : ∀ c ∈ most, isd c = true := by decide

/-- A numeral is held just if it has fewer than 19 digits, or 19 and is not above the greatest. -/
theorem held_iff (t : List Int) (hd : ∀ c ∈ t, isd c = true) (h0 : t.length ≠ 0) (hz : ¬ (1 < t.length ∧ rd t 0 = 48)) :
    maxF < val t ↔ (19 < t.length ∨ (t.length = 19 ∧ lessI most t = true)) := by
  have e19 : (10 : Int) ^ 19 = 10000000000000000000 := by decide
  have e18 : (10 : Int) ^ 18 = 1000000000000000000 := by decide
  constructor
  · intro h
    rcases Nat.lt_trichotomy t.length 19 with hl | hl | hl
    · exfalso
      have h1 := val_lt t hd
      have h2 : (10 : Int) ^ t.length ≤ 10 ^ 18 := pow_mono10 (by omega)
      unfold maxF at h
      omega
    · refine .inr ⟨hl, ?_⟩
      rw [less_val most t (by rw [hl]; rfl) most_isd hd, decide_eq_true_eq, most_val]
      exact h
    · exact .inl hl
  · rintro (h | ⟨hl, h⟩)
    · cases t with
      | nil => simp at h0
      | cons c t =>
        have hc : c ≠ 48 := fun e => hz ⟨by omega, by rw [e]; rfl⟩
        have h1 := val_ge c t hd hc
        have h2 : (10 : Int) ^ 19 ≤ 10 ^ t.length := pow_mono10 (by simp at h; omega)
        unfold maxF
        omega
    · rw [less_val most t (by rw [hl]; rfl) most_isd hd, decide_eq_true_eq, most_val] at h
      exact h

section
variable {s : ByteArray} {a : Int}
theorem l1_ev (t : ByteArray) (hd : ∀ c ∈ bytesOf t, isd c = true) (hm : val (bytesOf t) ≤ maxF) (hs : t.size ≤ 140737488351232) (d : Nat) : ∀ (n : Nat), t.size - n = d → n ≤ t.size →
    Ev (fun k => ferruleref01_Parse.l1 k t (val ((bytesOf t).take n)) (n : Int)) (val (bytesOf t), (t.size : Int), 0) := by
  have hlen := bs_length t
  induction d with
  | zero =>
    intro n hd' hn
    obtain rfl : n = t.size := by omega
    refine Ev.step (fun k => by rw [ferruleref01_Parse.l1]) (ev_neg (by omega) (ev_now ?_))
    rw [← hlen, List.take_length]
  | succ d ih =>
    intro n hd' hn
    have hlt : n < (bytesOf t).length := by omega
    have hc := (isd_iff _).mp (hd _ (List.getElem_mem hlt))
    have e : bt t (n : Int) = (bytesOf t)[n] := by rw [bt_bs, rd_of (by omega) (by omega)]; rfl
    refine Ev.step (fun k => by rw [ferruleref01_Parse.l1]) (ev_pos (by omega) (ev_pos (by omega) ?_))
    rw [e, wrap64_in (by omega) (by omega)]
    have hsn : val ((bytesOf t).take (n + 1)) = 10 * val ((bytesOf t).take n) + ((bytesOf t)[n] - 48) := by
      rw [List.take_succ_eq_append_getElem hlt, val_snoc]
    have h0 := val_nonneg ((bytesOf t).take n) fun c hc => hd c (List.mem_of_mem_take hc)
    have h1 : val ((bytesOf t).take (n + 1)) ≤ val (bytesOf t) := by
      have e2 := val_append ((bytesOf t).take (n + 1)) ((bytesOf t).drop (n + 1))
      rw [List.take_append_drop] at e2
      have h3 := val_nonneg ((bytesOf t).drop (n + 1)) fun c hc => hd c (List.mem_of_mem_drop hc)
      have h4 := val_nonneg ((bytesOf t).take (n + 1)) fun c hc => hd c (List.mem_of_mem_take hc)
      have h5 := pow_pos10 ((bytesOf t).drop (n + 1)).length
      have h6 : val ((bytesOf t).take (n + 1)) * 1 ≤ val ((bytesOf t).take (n + 1)) * 10 ^ ((bytesOf t).drop (n + 1)).length := Int.mul_le_mul_of_nonneg_left (by omega) h4
      omega
    unfold maxF at hm
    rw [wrapu64_in (x := 10 * _) (by omega) (by omega), show ((bytesOf t)[n] - 48) % 256 = (bytesOf t)[n] - 48 by omega, wrapu64_in (by omega) (by omega), ← hsn]
    have ec : ((n : Int) + 1) = ((n + 1 : Nat) : Int) := by omega
    rw [ec]
    exact ih (n + 1) (by omega) (by omega)

theorem j2_ev (hlen : s.size ≤ 140737488351232) (ha : ¬ (a < 0 ∨ ((bytesOf s).length : Int) < a)) :
    Ev (fun k => ferruleref01_Parse.j2 k s a (a + ((run ((bytesOf s).drop a.toNat)).length : Int))) (np (bytesOf s) a) := by
  have hl := bs_length s
  have hrl : a + ((run ((bytesOf s).drop a.toNat)).length : Int) ≤ s.size := by
    have := run_le ((bytesOf s).drop a.toNat)
    rw [List.length_drop] at this
    omega
  have hru := run_isd ((bytesOf s).drop a.toNat)
  have et : bytesOf (s.extract (a : Int).toNat (a + ((run ((bytesOf s).drop a.toNat)).length : Int)).toNat) = run ((bytesOf s).drop a.toNat) := by
    rw [bs_extract]
    have h1 := List.prefix_iff_eq_take.mp (run_prefix ((bytesOf s).drop a.toNat))
    conv => rhs; rw [h1]
    rw [List.drop_take]
    congr 1
    omega
  generalize hsx : s.extract (a : Int).toNat (a + ((run ((bytesOf s).drop a.toNat)).length : Int)).toNat = sx at et
  have hsz : sx.size = (run ((bytesOf s).drop a.toNat)).length := by rw [← bs_length, et]
  refine Ev.step (fun k => by rw [ferruleref01_Parse.j2]) (ev_pos (by omega) (ev_pos (by omega) (ev_pos hrl ?_)))
  rw [hsx]
  refine ev_bind (Ev.now _) ?_
  unfold np
  rw [if_neg ha]
  by_cases h0 : (run ((bytesOf s).drop a.toNat)).length = 0
  · rw [if_pos h0]
    refine ev_pos ?_ (Ev.now _)
    rw [toList_eq_iff, et]
    exact List.length_eq_zero_iff.mp h0
  · rw [if_neg h0]
    refine ev_neg ?_ ?_
    · rw [toList_eq_iff, et]
      intro h
      exact h0 (by rw [h]; rfl)
    · have j3 : ∀ b, b = decide (1 < (run ((bytesOf s).drop a.toNat)).length ∧ rd (run ((bytesOf s).drop a.toNat)) 0 = 48) →
          Ev (fun k => ferruleref01_Parse.j3 k sx b) (if 1 < (run ((bytesOf s).drop a.toNat)).length ∧ rd (run ((bytesOf s).drop a.toNat)) 0 = 48 then (0, 0, 3) else if maxF < val (run ((bytesOf s).drop a.toNat)) then (0, 0, 4) else (val (run ((bytesOf s).drop a.toNat)), ((run ((bytesOf s).drop a.toNat)).length : Int), 0)) := by
        intro b hb
        refine Ev.step (fun k => by rw [ferruleref01_Parse.j3]) ?_
        cases b with
        | true =>
          rw [if_pos (of_decide_eq_true hb.symm)]
          exact ev_pos rfl (Ev.now _)
        | false =>
          have hz := of_decide_eq_false hb.symm
          rw [if_neg hz]
          refine ev_neg (by simp) ?_
          have hh := held_iff (run ((bytesOf s).drop a.toNat)) hru h0 hz
          have j4 : ∀ b, b = decide (maxF < val (run ((bytesOf s).drop a.toNat))) →
              Ev (fun k => ferruleref01_Parse.j4 k sx b) (if maxF < val (run ((bytesOf s).drop a.toNat)) then (0, 0, 4) else (val (run ((bytesOf s).drop a.toNat)), ((run ((bytesOf s).drop a.toNat)).length : Int), 0)) := by
            intro b hb
            refine Ev.step (fun k => by rw [ferruleref01_Parse.j4]) ?_
            cases b with
            | true =>
              rw [if_pos (of_decide_eq_true hb.symm)]
              exact ev_pos rfl (Ev.now _)
            | false =>
              have hm := of_decide_eq_false hb.symm
              rw [if_neg hm]
              refine ev_neg (by simp) ?_
              have := l1_ev sx (by rw [et]; exact hru) (by rw [et]; omega) (by omega) _ 0 rfl (by omega)
              rw [et, hsz] at this
              simpa [val] using this
          by_cases h19 : (sx.size : Int) > 19
          · refine ev_pos h19 (j4 true ?_)
            symm
            rw [decide_eq_true_eq, hh]
            exact .inl (by omega)
          · refine ev_neg h19 ?_
            by_cases h20 : (sx.size : Int) = 19
            · refine ev_pos h20 (j4 _ ?_)
              rw [Bool.eq_iff_iff, decide_eq_true_eq, hh]
              have el : Op.bytesLess ([57, 50, 50, 51, 51, 55, 50, 48, 51, 54, 56, 53, 52, 55, 55, 53, 56, 48, 55] : List UInt8) sx.toList = lessI most (run ((bytesOf s).drop a.toNat)) := by
                rw [toList_data, less_map, ← et]
                rfl
              rw [el]
              constructor
              · intro h; exact .inr ⟨by omega, h⟩
              · rintro (h | ⟨_, h⟩)
                · omega
                · exact h
            · refine ev_neg h20 (j4 false ?_)
              symm
              rw [decide_eq_false_iff_not, hh]
              rintro (h | ⟨h, _⟩) <;> omega
      by_cases h1 : (sx.size : Int) > 1
      · refine ev_pos h1 (ev_pos (by omega) (j3 _ ?_))
        rw [Bool.eq_iff_iff, beq_iff_eq, decide_eq_true_eq, bt_bs, et]
        constructor
        · intro h; exact ⟨by omega, h⟩
        · intro h; exact h.2
      · refine ev_neg h1 (j3 _ ?_)
        symm
        rw [decide_eq_false_iff_not]
        omega

theorem l0_ev (hlen : s.size ≤ 140737488351232) (ha : ¬ (a < 0 ∨ ((bytesOf s).length : Int) < a)) (d : Nat) : ∀ (n : Nat), (run ((bytesOf s).drop a.toNat)).length - n = d → n ≤ (run ((bytesOf s).drop a.toNat)).length →
    Ev (fun k => ferruleref01_Parse.l0 k s a (a + (n : Int))) (np (bytesOf s) a) := by
  have hl := bs_length s
  have hrl : a + ((run ((bytesOf s).drop a.toNat)).length : Int) ≤ s.size := by
    have := run_le ((bytesOf s).drop a.toNat)
    rw [List.length_drop] at this
    omega
  induction d with
  | zero =>
    intro n hd hn
    obtain rfl : n = (run ((bytesOf s).drop a.toNat)).length := by omega
    refine Ev.step (fun k => by rw [ferruleref01_Parse.l0]) ?_
    by_cases h : a + ((run ((bytesOf s).drop a.toNat)).length : Int) < s.size
    · refine ev_pos h (ev_pos (by omega) ?_)
      have hst := run_stop (bytesOf s) a (by omega) (by omega)
      rw [bt_bs]
      unfold isd at hst
      rw [Bool.and_eq_false_iff, decide_eq_false_iff_not, decide_eq_false_iff_not] at hst
      by_cases h1 : rd (bytesOf s) (a + ((run ((bytesOf s).drop a.toNat)).length : Int)) ≥ 48
      · refine ev_pos h1 (ev_neg ?_ (j2_ev hlen ha))
        rcases hst with h2 | h2
        · exact absurd h1 h2
        · exact h2
      · exact ev_neg h1 (j2_ev hlen ha)
    · exact ev_neg h (j2_ev hlen ha)
  | succ d ih =>
    intro n hd hn
    have hlt : n < (run ((bytesOf s).drop a.toNat)).length := by omega
    obtain ⟨h1, h2⟩ := run_rd (bytesOf s) a (by omega) n hlt
    have hc := (isd_iff _).mp (run_isd _ _ (List.getElem_mem hlt))
    refine Ev.step (fun k => by rw [ferruleref01_Parse.l0]) (ev_pos (by omega) (ev_pos (by omega) ?_))
    rw [bt_bs, h2]
    refine ev_pos hc.1 (ev_pos hc.2 ?_)
    rw [wrap64_in (by omega) (by omega), show a + (n : Int) + 1 = a + ((n + 1 : Nat) : Int) by omega]
    exact ih (n + 1) (by omega) (by omega)

/-- The document's Parse. -/
theorem parse_ev (hlen : s.size ≤ 140737488351232) : Ev (fun k => ferruleref01_Parse.f k s a) (np (bytesOf s) a) := by
  have hl := bs_length s
  unfold ferruleref01_Parse.f
  by_cases h1 : a < 0
  · refine ev_pos h1 (Ev.step (fun k => by rw [ferruleref01_Parse.j0]) (ev_pos rfl (ev_now ?_)))
    unfold np
    rw [if_pos (.inl h1)]
  · refine ev_neg h1 (Ev.step (fun k => by rw [ferruleref01_Parse.j0]) ?_)
    by_cases h2 : a > (s.size : Int)
    · rw [decide_eq_true h2]
      refine ev_pos rfl (ev_now ?_)
      unfold np
      rw [if_pos (.inr (by omega))]
    · rw [decide_eq_false h2]
      refine ev_neg (by simp) ?_
      have := l0_ev hlen (by omega : ¬ (a < 0 ∨ ((bytesOf s).length : Int) < a)) _ 0 rfl (by omega)
      simpa using this
end
end Go.Proofs.YtildmfegfkiknaaDoor.Ref01

/- The version at a place of a text, as the document says: the same plain function. -/
namespace Go.Proofs.YtildmfegfkiknaaDoor.RefParse03
open Go.RowKit Go.Proofs.YtildmfegfkiknaaDoorW.PrintWords Go.Proofs.YtildmfegfkiknaaDoorW.PrintMore Go.Proofs.YtildmfegfkiknaaDoor.Aid Go.Proofs.YtildmfegfkiknaaDoor.Digits Go.Proofs.YtildmfegfkiknaaDoor.X Go.Proofs.YtildmfegfkiknaaDoor.Row02 Go.Proofs.YtildmfegfkiknaaDoor.Parse03

theorem go_err (pre : Bool) (r : List Int) : ∀ (w : List Int) (l : List ByteArray) (n : Int), (go pre r w l n).2.2 ≠ 0 → (go pre r w l n).2.1 = 0 := by
  induction r with
  | nil =>
    intro w l n
    unfold go
    split
    · intro h; exact absurd rfl h
    · intro _; rfl
  | cons c r ih =>
    intro w l n
    unfold go
    split
    · exact ih _ _ _
    · split
      · split
        · exact ih _ _ _
        · intro h; exact absurd rfl h
      · intro _; rfl
theorem rowP_err (d : List Int) (pre : Bool) (h : (rowP d 0 pre).2.2 ≠ 0) : (rowP d 0 pre).2.1 = 0 := by
  unfold rowP at h ⊢
  rw [if_neg (by omega)] at h ⊢
  exact go_err _ _ _ _ _ h

theorem s_size (b : List Int) (hb : ∀ x ∈ b, 0 ≤ x ∧ x < 256) : (strOfNums b).size = b.length := by rw [← bs_length, bs_ofNums b hb]
theorem s_bt (b : List Int) (hb : ∀ x ∈ b, 0 ≤ x ∧ x < 256) (i : Int) : bt (strOfNums b) i = rd b i := by rw [bt_bs, bs_ofNums b hb]
section
variable (b : List Int) (hb : ∀ x ∈ b, 0 ≤ x ∧ x < 256) (hl : b.length ≤ 1000000000)
include hb hl
theorem num_ev (n : Nat) (hn : n ≤ b.length) : Ev (fun k => ferruleref01_Parse.f k (strOfNums b) (n : Int)) (np (b.drop n) 0) := by
  have := Ref01.parse_ev (s := strOfNums b) (a := (n : Int)) (by rw [s_size b hb]; omega)
  rw [bs_ofNums b hb, np_drop b n hn] at this
  exact this
theorem rowR (n : Nat) (hn : n ≤ b.length) (pre : Bool) : Ev (fun k => ferruleref02_Row.f k (strOfNums b) (n : Int) pre) (rowP (b.drop n) 0 pre) := by
  have := refrow_ev b hb hl (n : Int) pre
  rw [rowP_drop b n hn] at this
  exact this
/-- What a mark's row comes to. -/
theorem j4_ev (n : Nat) (hn : n ≤ b.length) (m0 m1 m2 : Int) (l : List ByteArray) : Ev (fun k => ferruleref03_Parse.j3 k (strOfNums b) (n : Int) m0 m1 m2 l)
    (if (rowS (b.drop n) 43).2.2 = 0 then (m0, m1, m2, l, (rowS (b.drop n) 43).1, (n : Int) + (rowS (b.drop n) 43).2.1, 0) else no ((n : Int) + (rowS (b.drop n) 43).2.1) (rowS (b.drop n) 43).2.2) := by
  have hsz := s_size b hb
  refine Ev.step (fun k => by rw [ferruleref03_Parse.j3]) ?_
  have hno : Ev (fun k => ferruleref03_Parse.j4 k (strOfNums b) (n : Int) false m0 m1 m2 l) (m0, m1, m2, l, [], (n : Int), 0) := by
    refine Ev.step (fun k => by rw [ferruleref03_Parse.j4]) ?_
    exact ev_neg (by simp) (Ev.now _)
  by_cases h1 : n < b.length
  · refine ev_pos (by omega) (ev_pos (by omega) ?_)
    rw [s_bt b hb, rd_get b n h1, List.drop_eq_getElem_cons h1, rowS]
    by_cases h2 : b[n] = 43
    · rw [if_pos h2, beq_iff_eq.mpr h2]
      refine Ev.step (fun k => by rw [ferruleref03_Parse.j4]) (ev_pos rfl ?_)
      rw [wrap64_in (by omega) (by omega), show (n : Int) + 1 = ((n + 1 : Nat) : Int) by omega]
      refine ev_bind (rowR b hb hl (n + 1) (by omega) false) ?_
      rw [show ((43 : Int) == 45) = false from rfl]
      have hr := rowP_n (b.drop (n + 1)) false
      rw [List.length_drop] at hr
      by_cases h3 : (rowP (b.drop (n + 1)) 0 false).2.2 = 0
      · refine ev_pos h3 (ev_now ?_)
        rw [if_pos h3, wrap64_in (by omega) (by omega), show ((n + 1 : Nat) : Int) + (rowP (b.drop (n + 1)) 0 false).2.1 = (n : Int) + (1 + (rowP (b.drop (n + 1)) 0 false).2.1) by omega]
      · refine ev_neg h3 (ev_now ?_)
        rw [if_neg h3, rowP_err _ _ h3]; rfl
    · rw [if_neg h2, beq_eq_false_iff_ne.mpr h2, if_pos rfl]
      simpa using hno
  · refine ev_neg (by omega) ?_
    rw [List.drop_eq_nil_of_le (by omega), rowS, if_pos rfl]
    simpa using hno
theorem end_ev (n : Nat) (hn : n ≤ b.length) (m0 m1 m2 : Int) : Ev (fun k => ferruleref03_Parse.l0 k (strOfNums b) (n : Int) 3 m0 m1 m2) (endS (b.drop n) (n : Int) m0 m1 m2) := by
  have hsz := s_size b hb
  refine Ev.step (fun k => by rw [ferruleref03_Parse.l0]) (ev_neg (by omega) ?_)
  have hno : rowS (b.drop n) 45 = ([], 0, 0) → Ev (fun k => ferruleref03_Parse.j2 k (strOfNums b) (n : Int) false m0 m1 m2) (endS (b.drop n) (n : Int) m0 m1 m2) := by
    intro h
    refine Ev.step (fun k => by rw [ferruleref03_Parse.j2]) (ev_neg (by simp) ?_)
    have := j4_ev b hb hl n hn m0 m1 m2 []
    unfold endS
    rw [h]
    simpa using this
  by_cases h1 : n < b.length
  · refine ev_pos (by omega) (ev_pos (by omega) ?_)
    rw [s_bt b hb, rd_get b n h1]
    by_cases h2 : b[n] = 45
    · rw [beq_iff_eq.mpr h2]
      refine Ev.step (fun k => by rw [ferruleref03_Parse.j2]) (ev_pos rfl ?_)
      rw [wrap64_in (by omega) (by omega), show (n : Int) + 1 = ((n + 1 : Nat) : Int) by omega]
      refine ev_bind (rowR b hb hl (n + 1) (by omega) true) ?_
      have hr := rowP_n (b.drop (n + 1)) true
      rw [List.length_drop] at hr
      have he : rowS (b.drop n) 45 = ((rowP (b.drop (n + 1)) 0 true).1, 1 + (rowP (b.drop (n + 1)) 0 true).2.1, (rowP (b.drop (n + 1)) 0 true).2.2) := by
        rw [List.drop_eq_getElem_cons h1, rowS, if_pos h2]; rfl
      have herr := rowP_err (b.drop (n + 1)) true
      unfold endS
      rw [he]
      clear he
      generalize rowP (b.drop (n + 1)) 0 true = R at hr herr ⊢
      by_cases h3 : R.2.2 = 0
      · refine ev_pos h3 ?_
        simp only
        rw [if_pos h3, wrap64_in (by omega) (by omega)]
        have := j4_ev b hb hl (n + (1 + R.2.1).toNat) (by omega) m0 m1 m2 R.1
        rw [show ((n + (1 + R.2.1).toNat : Nat) : Int) = (n : Int) + (1 + R.2.1) by omega, ← List.drop_drop] at this
        rw [show ((n + 1 : Nat) : Int) + R.2.1 = (n : Int) + (1 + R.2.1) by omega]
        exact this
      · refine ev_neg h3 (ev_now ?_)
        simp only
        rw [if_neg h3, herr h3]; rfl
    · rw [beq_eq_false_iff_ne.mpr h2]
      refine hno ?_
      rw [List.drop_eq_getElem_cons h1, rowS, if_neg h2]
  · refine ev_neg (by omega) (hno ?_)
    rw [List.drop_eq_nil_of_le (by omega), rowS]
theorem two_ev (n : Nat) (hn : n ≤ b.length) (m0 m1 m2 : Int) : Ev (fun k => ferruleref03_Parse.l0 k (strOfNums b) (n : Int) 2 m0 m1 m2)
    (if (n : Int) = (b.length : Int) then no (n : Int) 2 else if rd b (n : Int) = 46 then p2 (b.drop (n + 1)) ((n : Int) + 1) m0 m1 else no (n : Int) 3) := by
  have hsz := s_size b hb
  refine Ev.step (fun k => by rw [ferruleref03_Parse.l0]) (ev_pos (by omega) (ev_pos (by omega) ?_))
  rw [hsz]
  by_cases h1 : (n : Int) = (b.length : Int)
  · rw [if_pos h1]; exact ev_pos h1 (Ev.now _)
  · rw [if_neg h1]
    refine ev_neg h1 (ev_pos (by omega) (ev_pos (by omega) ?_))
    rw [s_bt b hb]
    by_cases h2 : rd b (n : Int) = 46
    · rw [if_pos h2]
      refine ev_pos h2 ?_
      rw [wrap64_in (x := (n : Int) + 1) (by omega) (by omega), show (n : Int) + 1 = ((n + 1 : Nat) : Int) by omega]
      refine ev_bind (num_ev b hb hl (n + 1) (by omega)) ?_
      have hle := np_le (b.drop (n + 1))
      rw [List.length_drop] at hle
      unfold p2
      generalize np (b.drop (n + 1)) 0 = R at hle ⊢
      by_cases h3 : R.2.2 = 0
      · rw [if_pos h3]
        refine ev_pos h3 (ev_neg (by omega) (ev_neg (by omega) (ev_pos rfl ?_)))
        rw [wrap64_in (by omega) (by omega), show wrap64 (2 + 1) = 3 from wrap64_in (by omega) (by omega)]
        have := end_ev b hb hl (n + 1 + R.2.1.toNat) (by omega) m0 m1 R.1
        rw [show ((n + 1 + R.2.1.toNat : Nat) : Int) = ((n + 1 : Nat) : Int) + R.2.1 by omega, show b.drop (n + 1 + R.2.1.toNat) = (b.drop (n + 1)).drop R.2.1.toNat from (List.drop_drop ..).symm] at this
        exact this
      · rw [if_neg h3]
        exact ev_neg h3 (Ev.now _)
    · rw [if_neg h2]; exact ev_neg h2 (Ev.now _)
theorem one_ev (n : Nat) (hn : n ≤ b.length) (m0 m1 m2 : Int) : Ev (fun k => ferruleref03_Parse.l0 k (strOfNums b) (n : Int) 1 m0 m1 m2)
    (if (n : Int) = (b.length : Int) then no (n : Int) 2 else if rd b (n : Int) = 46 then p1 (b.drop (n + 1)) ((n : Int) + 1) m0 else no (n : Int) 3) := by
  have hsz := s_size b hb
  refine Ev.step (fun k => by rw [ferruleref03_Parse.l0]) (ev_pos (by omega) (ev_pos (by omega) ?_))
  rw [hsz]
  by_cases h1 : (n : Int) = (b.length : Int)
  · rw [if_pos h1]; exact ev_pos h1 (Ev.now _)
  · rw [if_neg h1]
    refine ev_neg h1 (ev_pos (by omega) (ev_pos (by omega) ?_))
    rw [s_bt b hb]
    by_cases h2 : rd b (n : Int) = 46
    · rw [if_pos h2]
      refine ev_pos h2 ?_
      rw [wrap64_in (x := (n : Int) + 1) (by omega) (by omega), show (n : Int) + 1 = ((n + 1 : Nat) : Int) by omega]
      refine ev_bind (num_ev b hb hl (n + 1) (by omega)) ?_
      have hle := np_le (b.drop (n + 1))
      rw [List.length_drop] at hle
      unfold p1
      generalize np (b.drop (n + 1)) 0 = R at hle ⊢
      by_cases h3 : R.2.2 = 0
      · rw [if_pos h3]
        refine ev_pos h3 (ev_neg (by omega) (ev_pos rfl ?_))
        rw [wrap64_in (by omega) (by omega), show wrap64 (1 + 1) = 2 from wrap64_in (by omega) (by omega)]
        have := two_ev b hb hl (n + 1 + R.2.1.toNat) (by omega) m0 R.1 m2
        rw [show ((n + 1 + R.2.1.toNat : Nat) : Int) = ((n + 1 : Nat) : Int) + R.2.1 by omega, Parse03.rd_drop b (n + 1) _ hle.1,
          show b.drop (n + 1 + R.2.1.toNat + 1) = (b.drop (n + 1)).drop (R.2.1.toNat + 1) from by rw [List.drop_drop, Nat.add_assoc]] at this
        have e : (((n + 1 : Nat) : Int) + R.2.1 = (b.length : Int)) ↔ (R.2.1 = ((b.drop (n + 1)).length : Int)) := by rw [List.length_drop]; omega
        simp only [e] at this
        exact this
      · rw [if_neg h3]
        exact ev_neg h3 (Ev.now _)
    · rw [if_neg h2]; exact ev_neg h2 (Ev.now _)
theorem zero_ev (n : Nat) (hn : n ≤ b.length) : Ev (fun k => ferruleref03_Parse.l0 k (strOfNums b) (n : Int) 0 0 0 0) (p0 (b.drop n) (n : Int)) := by
  refine Ev.step (fun k => by rw [ferruleref03_Parse.l0]) (ev_pos (by omega) (ev_neg (by omega) ?_))
  refine ev_bind (num_ev b hb hl n hn) ?_
  have hle := np_le (b.drop n)
  rw [List.length_drop] at hle
  unfold p0
  generalize np (b.drop n) 0 = R at hle ⊢
  by_cases h3 : R.2.2 = 0
  · rw [if_pos h3]
    refine ev_pos h3 (ev_pos rfl ?_)
    rw [wrap64_in (by omega) (by omega), show wrap64 (0 + 1) = 1 from wrap64_in (by omega) (by omega)]
    have := one_ev b hb hl (n + R.2.1.toNat) (by omega) R.1 0 0
    rw [show ((n + R.2.1.toNat : Nat) : Int) = (n : Int) + R.2.1 by omega, Parse03.rd_drop b n _ hle.1,
      show b.drop (n + R.2.1.toNat + 1) = (b.drop n).drop (R.2.1.toNat + 1) from by rw [List.drop_drop, Nat.add_assoc]] at this
    have e : ((n : Int) + R.2.1 = (b.length : Int)) ↔ (R.2.1 = ((b.drop n).length : Int)) := by rw [List.length_drop]; omega
    simp only [e] at this
    exact this
  · rw [if_neg h3]
    exact ev_neg h3 (Ev.now _)
theorem refparse_ev (a : Int) : Ev (fun k => ferruleref03_Parse.f k (strOfNums b) a) (parseP b a) := by
  have hsz := s_size b hb
  unfold ferruleref03_Parse.f parseP
  have hj1 : Ev (fun k => ferruleref03_Parse.j0 k (strOfNums b) a true) (no 0 1) := by
    refine Ev.step (fun k => by rw [ferruleref03_Parse.j0]) ?_
    exact ev_pos rfl (Ev.now _)
  by_cases h1 : a < 0
  · refine ev_pos h1 ?_
    rw [if_pos (.inl h1)]; exact hj1
  · refine ev_neg h1 ?_
    rw [hsz]
    by_cases h2 : a > (b.length : Int)
    · rw [decide_eq_true h2, if_pos (.inr h2)]; exact hj1
    · rw [decide_eq_false h2, if_neg (by omega)]
      refine Ev.step (fun k => by rw [ferruleref03_Parse.j0]) (ev_neg (by simp) ?_)
      have := zero_ev b hb hl a.toNat (by omega)
      rw [show ((a.toNat : Nat) : Int) = a by omega] at this
      exact this
end
end Go.Proofs.YtildmfegfkiknaaDoor.RefParse03

/- The version that a whole text is: the program's function and the document's come to the same. -/
namespace Go.Proofs.YtildmfegfkiknaaDoor.Read03
open Go.RowKit Go.Proofs.YtildmfegfkiknaaDoorW.PrintWords Go.Proofs.YtildmfegfkiknaaDoorW.PrintMore Go.Proofs.YtildmfegfkiknaaDoor.Aid Go.Proofs.YtildmfegfkiknaaDoor.Digits Go.Proofs.YtildmfegfkiknaaDoor.X Go.Proofs.YtildmfegfkiknaaDoor.Row02 Go.Proofs.YtildmfegfkiknaaDoor.Parse03 Go.Proofs.YtildmfegfkiknaaDoor.RefParse03

def readP (b : List Int) : Ver := if (p0 b 0).2.2.2.2.2.2 = 0 then (if (p0 b 0).2.2.2.2.2.1 < (b.length : Int) then no (p0 b 0).2.2.2.2.2.1 13 else ((p0 b 0).1, (p0 b 0).2.1, (p0 b 0).2.2.1, (p0 b 0).2.2.2.1, (p0 b 0).2.2.2.2.1, 0, 0)) else p0 b 0
theorem parse0 (b : List Int) : parseP b 0 = p0 b 0 := by
  unfold parseP
  rw [if_neg (by omega)]; rfl
theorem read_ev (b : List Int) (hb : ∀ x ∈ b, 0 ≤ x ∧ x < 256) (hl : b.length ≤ 1000000000) : Ev (fun k => semver_Read.f k (strOfNums b)) (readP b) := by
  have hsz := s_size b hb
  unfold semver_Read.f readP
  refine ev_pos (by omega) ?_
  rw [bs_ofNums b hb, hsz]
  have hp := Parse03.parse_ev b hb hl 0
  rw [parse0] at hp
  refine ev_bind hp ?_
  by_cases h1 : (p0 b 0).2.2.2.2.2.2 = 0
  · rw [if_pos h1]
    refine ev_pos h1 (Ev.step (fun k => by rw [semver_Read.j0]) ?_)
    by_cases h2 : (p0 b 0).2.2.2.2.2.1 < (b.length : Int)
    · rw [if_pos h2, decide_eq_true h2]
      exact ev_pos rfl (Ev.now _)
    · rw [if_neg h2, decide_eq_false h2]
      refine ev_neg (by simp) (ev_pos h1 (ev_now ?_))
      rw [h1]
  · rw [if_neg h1]
    refine ev_neg h1 (Ev.step (fun k => by rw [semver_Read.j0]) (ev_neg (by simp) (ev_neg h1 (Ev.now _))))
theorem refread_ev (b : List Int) (hb : ∀ x ∈ b, 0 ≤ x ∧ x < 256) (hl : b.length ≤ 1000000000) : Ev (fun k => ferruleref03_Read.f k (strOfNums b)) (readP b) := by
  have hsz := s_size b hb
  unfold ferruleref03_Read.f readP
  rw [hsz]
  have hp := refparse_ev b hb hl 0
  rw [parse0] at hp
  refine ev_bind hp ?_
  by_cases h1 : (p0 b 0).2.2.2.2.2.2 = 0
  · by_cases h2 : (p0 b 0).2.2.2.2.2.1 < (b.length : Int)
    · simp only [if_pos h1, if_pos h2]
      exact Ev.now _
    · simp only [if_pos h1, if_neg h2]
      refine ev_now ?_
      rw [h1]
  · simp only [if_neg h1]
    exact Ev.now _
end Go.Proofs.YtildmfegfkiknaaDoor.Read03

/- When two versions are one. -/
namespace Go.Proofs.YtildmfegfkiknaaDoor.Same03
open Go.RowKit Go.Proofs.YtildmfegfkiknaaDoorW.PrintWords Go.Proofs.YtildmfegfkiknaaDoorW.PrintMore Go.Proofs.YtildmfegfkiknaaDoor.Aid Go.Proofs.YtildmfegfkiknaaDoor.X

theorem rdOf_get (l : List ByteArray) (n : Nat) (h : n < l.length) : rdOf ByteArray.empty l (n : Int) = l[n] := by
  unfold rdOf
  rw [List.getD_eq_getElem?_getD, show ((n : Int)).toNat = n by omega, List.getElem?_eq_getElem h]
  rfl
theorem text_eq (a b : ByteArray) : a.toList = b.toList ↔ a = b := by
  rw [toList_data, toList_data]
  constructor
  · intro h
    cases a; cases b
    congr 1
    exact Array.toList_inj.mp h
  · rintro rfl; rfl
theorem equal_l0 (a b : List ByteArray) (hl : a.length = b.length) (ha : a.length ≤ 140737488351232) (d : Nat) : ∀ n : Nat, a.length - n = d → n ≤ a.length → Ev (fun k => slices_Equal_string_string.l0 k a b (a.length : Int) (n : Int)) (decide (a.drop n = b.drop n)) := by
  induction d with
  | zero =>
    intro n hd hn
    refine Ev.step (fun k => by rw [slices_Equal_string_string.l0]) (ev_neg (by omega) (ev_now ?_))
    rw [List.drop_eq_nil_of_le (by omega), List.drop_eq_nil_of_le (by omega)]
    rfl
  | succ d ih =>
    intro n hd hn
    have h1 : n < a.length := by omega
    have h2 : n < b.length := by omega
    refine Ev.step (fun k => by rw [slices_Equal_string_string.l0]) (ev_pos (by omega) (ev_pos (by omega) (ev_pos (by omega) (ev_pos (by omega) ?_))))
    rw [List.drop_eq_getElem_cons h1, List.drop_eq_getElem_cons h2, rdOf_get a n h1, rdOf_get b n h2]
    by_cases h : a[n] = b[n]
    · refine ev_pos ((text_eq _ _).mpr h) ?_
      rw [wrap64_in (by omega) (by omega), show (n : Int) + 1 = ((n + 1 : Nat) : Int) by omega]
      have e : decide (a[n] :: a.drop (n + 1) = b[n] :: b.drop (n + 1)) = decide (a.drop (n + 1) = b.drop (n + 1)) := by
        rw [decide_eq_decide]
        constructor
        · intro h'; exact (List.cons.inj h').2
        · intro h'; rw [h, h']
      rw [e]
      exact ih (n + 1) (by omega) (by omega)
    · refine ev_neg (fun h' => h ((text_eq _ _).mp h')) (ev_now ?_)
      symm
      exact decide_eq_false fun h' => h (List.cons.inj h').1
theorem equal_ev (a b : List ByteArray) (ha : a.length ≤ 140737488351232) : Ev (fun k => slices_Equal_string_string.f k a b) (decide (a = b)) := by
  unfold slices_Equal_string_string.f
  by_cases h : (a.length : Int) = (b.length : Int)
  · refine ev_pos h ?_
    have := equal_l0 a b (by omega) ha _ 0 rfl (by omega)
    exact this
  · refine ev_neg h (ev_now ?_)
    symm
    exact decide_eq_false fun e => h (by rw [e])
theorem same_ev (a0 a1 a2 : Int) (p pb : List ByteArray) (b0 b1 b2 : Int) (q qb : List ByteArray) (hp : p.length ≤ 140737488351232) (hpb : pb.length ≤ 140737488351232) :
    Ev (fun k => semver_Same.f k a0 a1 a2 p pb b0 b1 b2 q qb) (decide (a0 = b0 ∧ a1 = b1 ∧ a2 = b2 ∧ p = q ∧ pb = qb)) := by
  unfold semver_Same.f
  by_cases h0 : a0 = b0
  · refine ev_pos h0 ?_
    by_cases h1 : a1 = b1
    · refine ev_pos h1 ?_
      by_cases h2 : a2 = b2
      · refine ev_pos h2 (ev_bind (equal_ev p q hp) ?_)
        by_cases h3 : p = q
        · refine ev_pos (decide_eq_true h3) (ev_bind (equal_ev pb qb hpb) (ev_now ?_))
          rw [decide_eq_decide]; simp [h0, h1, h2, h3]
        · refine ev_neg (by simpa using h3) (ev_now ?_)
          symm; exact decide_eq_false fun h => h3 h.2.2.2.1
      · refine ev_neg h2 (ev_now ?_)
        symm; exact decide_eq_false fun h => h2 h.2.2.1
    · refine ev_neg h1 (ev_now ?_)
      symm; exact decide_eq_false fun h => h1 h.2.1
  · refine ev_neg h0 (ev_now ?_)
    symm; exact decide_eq_false fun h => h0 h.1
end Go.Proofs.YtildmfegfkiknaaDoor.Same03

/- What the statements of layer 3 ask first. -/
namespace Go.Proofs.YtildmfegfkiknaaDoor.Awake03
open Go.RowKit Go.Proofs.YtildmfegfkiknaaDoor.X Go.Proofs.YtildmfegfkiknaaDoorW.PrintWords
theorem awake_ev : Ev (fun k => ferrulelaw03_awake.f k) true := Ev.of ferrulelaw03_awake.mono (k := 40) (by kernel_rfl)
end Go.Proofs.YtildmfegfkiknaaDoor.Awake03

/- SemverTexts: the pure statement, for every two versions. -/
namespace Go.Proofs.YtildmfegfkiknaaDoor.Short03
open Go.RowKit Go.Proofs.YtildmfegfkiknaaDoor.X Go.Proofs.YtildmfegfkiknaaDoorW.PrintWords Go.Proofs.YtildmfegfkiknaaDoorW.PrintMore Go.Proofs.YtildmfegfkiknaaDoor.Aid Go.Proofs.YtildmfegfkiknaaDoor.Row02
theorem drop_one {α : Type} (l : List α) (n : Nat) (h : n < l.length) : l.drop n = l[n] :: l.drop (n + 1) := List.drop_eq_getElem_cons h
def shortB (p q : List ByteArray) : Bool := decide (p.length ≤ 40) && decide (q.length ≤ 40) && p.all (fun s => decide (s.size ≤ 300)) && q.all (fun s => decide (s.size ≤ 300))
theorem short_l1 (a b c : Int) (p q : List ByteArray) (hl : q.length ≤ 40) (d : Nat) : ∀ n : Nat, q.length - n = d → n ≤ q.length → Ev (fun k => ferrulelaw03_short.l1 k (n : Int) a b c p q) ((q.drop n).all fun s => decide (s.size ≤ 300)) := by
  induction d with
  | zero =>
    intro n hd hn
    refine Ev.step (fun k => by rw [ferrulelaw03_short.l1]) (ev_neg (by omega) (ev_now ?_))
    rw [List.drop_eq_nil_of_le (by omega)]
    rfl
  | succ d ih =>
    intro n hd hn
    have hlt : n < q.length := by omega
    refine Ev.step (fun k => by rw [ferrulelaw03_short.l1]) (ev_pos (by omega) (ev_pos (by omega) ?_))
    rw [drop_one q n hlt, rdOf_get q n hlt, List.all_cons]
    by_cases h : (q[n].size : Int) > 300
    · refine ev_pos h (ev_now ?_)
      rw [decide_eq_false (by omega), Bool.false_and]
    · refine ev_neg h ?_
      rw [decide_eq_true (by omega), Bool.true_and, wrap64_in (by omega) (by omega), show (n : Int) + 1 = ((n + 1 : Nat) : Int) by omega]
      exact ih (n + 1) (by omega) (by omega)
theorem short_l0 (a b c : Int) (p q : List ByteArray) (hp : p.length ≤ 40) (hl : q.length ≤ 40) (d : Nat) : ∀ n : Nat, p.length - n = d → n ≤ p.length → Ev (fun k => ferrulelaw03_short.l0 k (n : Int) a b c p q) (((p.drop n).all fun s => decide (s.size ≤ 300)) && (q.all fun s => decide (s.size ≤ 300))) := by
  induction d with
  | zero =>
    intro n hd hn
    refine Ev.step (fun k => by rw [ferrulelaw03_short.l0]) (ev_neg (by omega) ?_)
    rw [List.drop_eq_nil_of_le (by omega), List.all_nil, Bool.true_and]
    exact short_l1 a b c p q hl _ 0 rfl (by omega)
  | succ d ih =>
    intro n hd hn
    have hlt : n < p.length := by omega
    refine Ev.step (fun k => by rw [ferrulelaw03_short.l0]) (ev_pos (by omega) (ev_pos (by omega) ?_))
    rw [drop_one p n hlt, rdOf_get p n hlt, List.all_cons]
    by_cases h : (p[n].size : Int) > 300
    · refine ev_pos h (ev_now ?_)
      rw [decide_eq_false (by omega), Bool.false_and, Bool.false_and]
    · refine ev_neg h ?_
      rw [decide_eq_true (by omega), Bool.true_and, wrap64_in (by omega) (by omega), show (n : Int) + 1 = ((n + 1 : Nat) : Int) by omega]
      exact ih (n + 1) (by omega) (by omega)
theorem short_ev (a b c : Int) (p q : List ByteArray) : Ev (fun k => ferrulelaw03_short.f k a b c p q) (shortB p q) := by
  unfold ferrulelaw03_short.f shortB
  have hj1 : Ev (fun k => ferrulelaw03_short.j0 k true a b c p q) false := Ev.step (fun k => by rw [ferrulelaw03_short.j0]) (ev_pos rfl (Ev.now _))
  by_cases h1 : (p.length : Int) > 40
  · refine ev_pos h1 ?_
    rw [decide_eq_false (show ¬ p.length ≤ 40 by omega)]
    exact hj1
  · refine ev_neg h1 ?_
    rw [decide_eq_true (show p.length ≤ 40 by omega)]
    by_cases h2 : (q.length : Int) > 40
    · rw [decide_eq_true h2, decide_eq_false (show ¬ q.length ≤ 40 by omega)]
      exact hj1
    · rw [decide_eq_false h2, decide_eq_true (show q.length ≤ 40 by omega)]
      refine Ev.step (fun k => by rw [ferrulelaw03_short.j0]) (ev_neg (by simp) ?_)
      exact short_l0 a b c p q (by omega) (by omega) _ 0 rfl (by omega)
theorem shortB_of {p q : List ByteArray} (h : shortB p q = true) : (p.length ≤ 40 ∧ ∀ x ∈ p, x.size ≤ 300) ∧ (q.length ≤ 40 ∧ ∀ x ∈ q, x.size ≤ 300) := by
  unfold shortB at h
  simp only [Bool.and_eq_true, decide_eq_true_eq, List.all_eq_true] at h
  obtain ⟨⟨⟨l1, l2⟩, s1⟩, s2⟩ := h
  exact ⟨⟨l1, s1⟩, ⟨l2, s2⟩⟩
end Go.Proofs.YtildmfegfkiknaaDoor.Short03
namespace Go.Proofs.YtildmfegfkiknaaDoor.Pure
open Go.RowKit Go.Proofs.YtildmfegfkiknaaDoor.X Go.Proofs.YtildmfegfkiknaaDoorW.PrintWords Go.Proofs.YtildmfegfkiknaaDoorW.PrintMore Go.Proofs.YtildmfegfkiknaaDoor.Aid Go.Proofs.YtildmfegfkiknaaDoor.Digits Go.Proofs.YtildmfegfkiknaaDoor.Parse03 Go.Proofs.YtildmfegfkiknaaDoor.Read03 Go.Proofs.YtildmfegfkiknaaDoor.Back03 Go.Proofs.YtildmfegfkiknaaDoor.Text03 Go.Proofs.YtildmfegfkiknaaDoor.Short03
def goodV (a0 a1 a2 : Int) (p q : List ByteArray) : Bool := decide (a0 ≤ maxF ∧ a1 ≤ maxF ∧ a2 ≤ maxF) && (Good02.goodL true p 0 && Good02.goodL false q 0)
theorem ev_and {f : Nat → Option Bool} {g : Nat → Option Bool} {a b : Bool} (hf : Ev f a) (hg : Ev g b) : Ev (fun k => (f k).bind fun t => if t = true then g k else some false) (a && b) := by
  refine ev_bind hf ?_
  cases a with
  | true => exact ev_pos rfl hg
  | false => exact ev_neg (by simp) (Ev.now _)
section
variable (a0 a1 a2 : Int) (p q : List ByteArray) (lp : p.length ≤ 40) (sp : ∀ x ∈ p, x.size ≤ 300) (lq : q.length ≤ 40) (sq : ∀ x ∈ q, x.size ≤ 300)
include lp sp lq sq
theorem sgood_ev : Ev (fun k => semver_Good.f k a0 a1 a2 p q) (goodV a0 a1 a2 p q) := by
  unfold semver_Good.f goodV
  have hm : mx (mx a0 a1) a2 ≤ 9223372036854775807 ↔ (a0 ≤ maxF ∧ a1 ≤ maxF ∧ a2 ≤ maxF) := by
    unfold mx maxF
    (repeat' split) <;> omega
  by_cases h : a0 ≤ maxF ∧ a1 ≤ maxF ∧ a2 ≤ maxF
  · rw [decide_eq_true h, Bool.true_and]
    exact ev_pos (hm.mpr h) (ev_and (Good02.good_ev p true lp sp) (ev_bind (Good02.good_ev q false lq sq) (Ev.now _)))
  · rw [decide_eq_false h, Bool.false_and]
    exact ev_neg (fun h2 => h (hm.mp h2)) (Ev.now _)
theorem rgood_ev : Ev (fun k => ferruleref03_Good.f k a0 a1 a2 p q) (goodV a0 a1 a2 p q) := by
  unfold ferruleref03_Good.f goodV
  by_cases h : a0 ≤ maxF ∧ a1 ≤ maxF ∧ a2 ≤ maxF
  · rw [decide_eq_true h, Bool.true_and]
    unfold maxF at h
    exact ev_pos (by omega) (ev_pos (by omega) (ev_pos (by omega) (ev_and (Good02.refgood_ev p true lp sp) (ev_bind (Good02.refgood_ev q false lq sq) (Ev.now _)))))
  · rw [decide_eq_false h, Bool.false_and]
    unfold maxF at h
    by_cases c0 : a0 < 9223372036854775808
    · refine ev_pos c0 ?_
      by_cases c1 : a1 < 9223372036854775808
      · exact ev_pos c1 (ev_neg (by omega) (Ev.now _))
      · exact ev_neg c1 (Ev.now _)
    · exact ev_neg c0 (Ev.now _)
end
theorem rsame_ev (a0 a1 a2 : Int) (p pb : List ByteArray) (b0 b1 b2 : Int) (q qb : List ByteArray) (hp : p.length ≤ 140737488351232) (hpb : pb.length ≤ 140737488351232) :
    Ev (fun k => ferruleref03_Same.f k a0 a1 a2 p pb b0 b1 b2 q qb) (decide (a0 = b0 ∧ a1 = b1 ∧ a2 = b2 ∧ p = q ∧ pb = qb)) := by
  unfold ferruleref03_Same.f
  by_cases h0 : a0 = b0
  · refine ev_pos h0 ?_
    by_cases h1 : a1 = b1
    · refine ev_pos h1 ?_
      by_cases h2 : a2 = b2
      · refine ev_pos h2 (ev_bind (Row02.same_ev p q hp) ?_)
        by_cases h3 : p = q
        · refine ev_pos (decide_eq_true h3) (ev_bind (Row02.same_ev pb qb hpb) (ev_now ?_))
          rw [decide_eq_decide]; simp [h0, h1, h2, h3]
        · refine ev_neg (by simpa using h3) (ev_now ?_)
          symm; exact decide_eq_false fun h => h3 h.2.2.2.1
      · refine ev_neg h2 (ev_now ?_)
        symm; exact decide_eq_false fun h => h2 h.2.2.1
    · refine ev_neg h1 (ev_now ?_)
      symm; exact decide_eq_false fun h => h1 h.2.1
  · refine ev_neg h0 (ev_now ?_)
    symm; exact decide_eq_false fun h => h0 h.1
theorem u64_in {a : Int} (h : (Lit.int .u64 a).wf = true) : 0 ≤ a ∧ a < 18446744073709551616 := by
  simp only [Lit.wf, IntKind.min, IntKind.max, IntKind.signed, IntKind.bits, Bool.and_eq_true] at h
  simp at h
  omega
theorem readP_text (a0 a1 a2 : Int) (p q : List ByteArray) (h0 : 0 ≤ a0) (h1 : 0 ≤ a1) (h2 : 0 ≤ a2) (hg : goodV a0 a1 a2 p q = true) : readP (textI a0 a1 a2 p q) = (a0, a1, a2, p, q, 0, 0) := by
  unfold goodV at hg
  simp only [Bool.and_eq_true, decide_eq_true_eq] at hg
  obtain ⟨⟨m0, m1, m2⟩, gp, gq⟩ := hg
  unfold readP
  rw [back a0 a1 a2 p q ⟨h0, m0⟩ ⟨h1, m1⟩ ⟨h2, m2⟩ gp gq]
  simp only [if_true]
  rw [if_neg (by omega)]
theorem SemverTexts : ferrulelaw03_SemverTexts.Pure := by
  intro a0 a1 a2 p pb b0 b1 b2 q qb w0 w1 w2 _ _ _ _ _ _ _
  have h0 := u64_in w0
  have h1 := u64_in w1
  have h2 := u64_in w2
  refine Ev.rounds ?_
  unfold ferrulelaw03_SemverTexts.f
  refine ev_bind Awake03.awake_ev (ev_pos rfl (ev_bind (short_ev _ _ _ _ _) ?_))
  have hj1 : Ev (fun k => ferrulelaw03_SemverTexts.j0 k true a0 a1 a2 p pb b0 b1 b2 q qb) true := Ev.step (fun k => by rw [ferrulelaw03_SemverTexts.j0]) (ev_pos rfl (Ev.now _))
  by_cases s1 : shortB p pb = true
  · refine ev_pos s1 (ev_bind (short_ev _ _ _ _ _) ?_)
    by_cases s2 : shortB q qb = true
    · rw [s2]
      obtain ⟨⟨lp, sp⟩, ⟨lq, sq⟩⟩ := shortB_of s1
      refine Ev.step (fun k => by rw [ferrulelaw03_SemverTexts.j0]) ?_
      rw [vtext_some a0 a1 a2 p pb h0 h1 h2 lp sp lq sq]
      refine ev_neg (by simp) (ev_bind (Ev.now _) (ev_bind (sgood_ev a0 a1 a2 p pb lp sp lq sq) (ev_bind (refvtext_ev a0 a1 a2 p pb h0 h1 h2 lp sp lq sq) (ev_pos rfl (ev_bind (rgood_ev a0 a1 a2 p pb lp sp lq sq) ?_)))))
      refine ev_neg (by simp) (ev_bind (Same03.same_ev a0 a1 a2 p pb b0 b1 b2 q qb (by omega) (by omega)) (ev_bind (rsame_ev a0 a1 a2 p pb b0 b1 b2 q qb (by omega) (by omega)) (ev_neg (by simp) (ev_bind (Same03.same_ev a0 a1 a2 p pb a0 a1 a2 p pb (by omega) (by omega)) ?_))))
      rw [decide_eq_true ⟨rfl, rfl, rfl, rfl, rfl⟩]
      refine Ev.step (fun k => by rw [ferrulelaw03_SemverTexts.j1]) (ev_neg (by simp) ?_)
      by_cases hg : goodV a0 a1 a2 p pb = true
      · refine ev_pos hg ?_
        have hb : ∀ x ∈ textI a0 a1 a2 p pb, 0 ≤ x ∧ x < 256 := by rw [← bs_vt]; exact bs_bytes _
        have hsz : (textI a0 a1 a2 p pb).length ≤ 1000000000 := by
          have z0 := Text01.dig_len a0 h0.2
          have z1 := Text01.dig_len a1 h1.2
          have z2 := Text01.dig_len a2 h2.2
          have zp := Good02.text_len p lp sp
          have zq := Good02.text_len pb lq sq
          have m1 := mark_len 45 p
          have m2 := mark_len 43 pb
          unfold markN at m1 m2
          unfold textI
          simp only [List.length_append, List.length_cons]
          split at m1 <;> split at m2 <;> omega
        have hr := read_ev (textI a0 a1 a2 p pb) hb hsz
        rw [show strOfNums (textI a0 a1 a2 p pb) = vt a0 a1 a2 p pb by rw [← bs_vt, Good02.str_bs], readP_text a0 a1 a2 p pb h0.1 h1.1 h2.1 hg] at hr
        refine ev_bind hr (ev_pos rfl (ev_bind (rsame_ev a0 a1 a2 p pb a0 a1 a2 p pb (by omega) (by omega)) (ev_now ?_)))
        exact decide_eq_true ⟨rfl, rfl, rfl, rfl, rfl⟩
      · exact ev_neg hg (Ev.now _)
    · rw [Bool.not_eq_true] at s2
      rw [s2]
      exact hj1
  · exact ev_neg s1 hj1
end Go.Proofs.YtildmfegfkiknaaDoor.Pure
-- shrunk
namespace Go.Proofs.YtildmfegfkiknaaDoor.semverTexts
open Go.ChangeShapes Go.WideShapes Go.ChangeAt Go.RowKit Go.Proofs.YtildmfegfkiknaaDoor.X Go.Proofs.YtildmfegfkiknaaDoorW.PrintWords
open Go.ChangeMaps (open_string shut_string)
set_option linter.unusedVariables false
theorem own : ownKnob Tryd.prog.godebug = none := by kernel_rfl
theorem laidOut : laidOutB Tryd.prog = true := by kernel_rfl
theorem op40 (m : Nat) : Open.Op Tryd.prog (m + 2) 40 k40 v40 :=
 Open.op_mono (V := fun x : S40 => (fun p : (Int × (Int × (Int × ((List ByteArray) × (List ByteArray))))) => (fun x : Int => (Lit.int .u64 x).wf = true) p.1 ∧ (fun p : (Int × (Int × ((List ByteArray) × (List ByteArray)))) => (fun x : Int => (Lit.int .u64 x).wf = true) p.1 ∧ (fun p : (Int × ((List ByteArray) × (List ByteArray))) => (fun x : Int => (Lit.int .u64 x).wf = true) p.1 ∧ (fun p : ((List ByteArray) × (List ByteArray)) => (fun l : (List ByteArray) => l.length ≤ maxLen ∧ ∀ x ∈ l, (fun s : ByteArray => s.size ≤ maxLen) x) p.1 ∧ (fun l : (List ByteArray) => l.length ≤ maxLen ∧ ∀ x ∈ l, (fun s : ByteArray => s.size ≤ maxLen) x) p.2) p.2) p.2) p.2) (x.f0, x.f1, x.f2, x.f3, x.f4)) (Open.op_struct (m := m + 1) (n := (1 + (1 + (1 + (1 + 1))))) (V := (fun p : (Int × (Int × (Int × ((List ByteArray) × (List ByteArray))))) => (fun x : Int => (Lit.int .u64 x).wf = true) p.1 ∧ (fun p : (Int × (Int × ((List ByteArray) × (List ByteArray)))) => (fun x : Int => (Lit.int .u64 x).wf = true) p.1 ∧ (fun p : (Int × ((List ByteArray) × (List ByteArray))) => (fun x : Int => (Lit.int .u64 x).wf = true) p.1 ∧ (fun p : ((List ByteArray) × (List ByteArray)) => (fun l : (List ByteArray) => l.length ≤ maxLen ∧ ∀ x ∈ l, (fun s : ByteArray => s.size ≤ maxLen) x) p.1 ∧ (fun l : (List ByteArray) => l.length ≤ maxLen ∧ ∀ x ∈ l, (fun s : ByteArray => s.size ≤ maxLen) x) p.2) p.2) p.2) p.2)) (fun x : S40 => (x.f0, x.f1, x.f2, x.f3, x.f4)) (fun p : (Int × (Int × (Int × ((List ByteArray) × (List ByteArray))))) => (⟨p.1, p.2.1, p.2.2.1, p.2.2.2.1, p.2.2.2.2⟩ : S40)) (fun _ => rfl) Tryd.underlying40 (by kernel_rfl) (Open.opf_cons (off := 0) (k := 1) (n := (1 + (1 + (1 + 1)))) (V := (fun x : Int => (Lit.int .u64 x).wf = true)) (V2 := (fun p : (Int × (Int × ((List ByteArray) × (List ByteArray)))) => (fun x : Int => (Lit.int .u64 x).wf = true) p.1 ∧ (fun p : (Int × ((List ByteArray) × (List ByteArray))) => (fun x : Int => (Lit.int .u64 x).wf = true) p.1 ∧ (fun p : ((List ByteArray) × (List ByteArray)) => (fun l : (List ByteArray) => l.length ≤ maxLen ∧ ∀ x ∈ l, (fun s : ByteArray => s.size ≤ maxLen) x) p.1 ∧ (fun l : (List ByteArray) => l.length ≤ maxLen ∧ ∀ x ∈ l, (fun s : ByteArray => s.size ≤ maxLen) x) p.2) p.2) p.2)) _ (by rfl) (by kernel_rfl) (Open.op_int Tryd.underlying38 (m + 1)) (Open.opf_cons (off := (0 + 1)) (k := 1) (n := (1 + (1 + 1))) (V := (fun x : Int => (Lit.int .u64 x).wf = true)) (V2 := (fun p : (Int × ((List ByteArray) × (List ByteArray))) => (fun x : Int => (Lit.int .u64 x).wf = true) p.1 ∧ (fun p : ((List ByteArray) × (List ByteArray)) => (fun l : (List ByteArray) => l.length ≤ maxLen ∧ ∀ x ∈ l, (fun s : ByteArray => s.size ≤ maxLen) x) p.1 ∧ (fun l : (List ByteArray) => l.length ≤ maxLen ∧ ∀ x ∈ l, (fun s : ByteArray => s.size ≤ maxLen) x) p.2) p.2)) _ (by rfl) (by kernel_rfl) (Open.op_int Tryd.underlying38 (m + 1)) (Open.opf_cons (off := ((0 + 1) + 1)) (k := 1) (n := (1 + 1)) (V := (fun x : Int => (Lit.int .u64 x).wf = true)) (V2 := (fun p : ((List ByteArray) × (List ByteArray)) => (fun l : (List ByteArray) => l.length ≤ maxLen ∧ ∀ x ∈ l, (fun s : ByteArray => s.size ≤ maxLen) x) p.1 ∧ (fun l : (List ByteArray) => l.length ≤ maxLen ∧ ∀ x ∈ l, (fun s : ByteArray => s.size ≤ maxLen) x) p.2)) _ (by rfl) (by kernel_rfl) (Open.op_int Tryd.underlying38 (m + 1)) (Open.opf_cons (off := (((0 + 1) + 1) + 1)) (k := 1) (n := 1) (V := (fun l : (List ByteArray) => l.length ≤ maxLen ∧ ∀ x ∈ l, (fun s : ByteArray => s.size ≤ maxLen) x)) (V2 := (fun l : (List ByteArray) => l.length ≤ maxLen ∧ ∀ x ∈ l, (fun s : ByteArray => s.size ≤ maxLen) x)) _ (by rfl) (by kernel_rfl) (Open.op_slice Tryd.underlying24 (by kernel_rfl) (m) (Open.op_string Tryd.underlying9 m)) (Open.opf_one (off := ((((0 + 1) + 1) + 1) + 1)) (n := 1) (V := (fun l : (List ByteArray) => l.length ≤ maxLen ∧ ∀ x ∈ l, (fun s : ByteArray => s.size ≤ maxLen) x)) _ (by rfl) (by kernel_rfl) (Open.op_slice Tryd.underlying24 (by kernel_rfl) (m) (Open.op_string Tryd.underlying9 m)))))))) (fun _ h => h)
/-- A start that meets the condition: the heap that the door's own run leaves, the pinned tables laid besides. -/
noncomputable def setVar (P : Program) (w : World) (n : String) (cs : Array Value) : World := match P.globalNamed n with
 | some g => { w with heap := w.heap.modify g fun
   | .cells _ t frozen => .cells cs t frozen
   | o => o }
 | _ => w
noncomputable def start (os : Os) : World := setVar Tryd.prog (World.doorLaid Tryd.prog 34 os) "unicode/utf8.first" ((Go.Pinned.utf8FirstZ).map fun n : Nat => Value.int .u8 (n : Int)).toArray
theorem start_met (os : Os) (args : Array Value) : laidMetH Tryd.prog Rows.semverTextsRow.laid ((start os).forCall (fun _ _ => 0) ⟨#[], args, []⟩).memory :=
 laidMetH_of_parts3 (fuel := 8) (laidMet_of_run' 8 (by kernel_rfl) (by kernel_rfl)) (by kernel_rfl) (by kernel_rfl)
set_option maxRecDepth 100000 in
theorem lifted (os : Os) (started : os.Started) (H : Type) (enc : TypeId × Value → H) :
  ReturnsInHanded {} Tryd.checked os 12 .any (fun w args => (Rows.semverTextsSpec.pre enc Tryd.prog Tryd.f12 Rows.semverTextsRow.domain false w args ∧ laidMetH Tryd.prog Rows.semverTextsRow.laid w) ∧ sizedMet enc Tryd.prog Tryd.f12 (OpenSpec.ofChange Rows.semverTextsSpec) false w args) (Rows.semverTextsSpec.post enc Tryd.prog Tryd.f12 false true false false) := by
 refine returnsInHanded_of_change_and (C := Tryd.checked) (X := fun w _ => laidMetH Tryd.prog Rows.semverTextsRow.laid w) (fun _ _ _ hh h => h.of_heap hh) own started (by kernel_rfl) Tryd.func12
  (ChangeSpec.witness_shaped (enc := enc) (C := Tryd.checked) (os := os) (X := fun w _ => laidMetH Tryd.prog Rows.semverTextsRow.laid w) false (start os) #[.agg #[.int .u64 0, .int .u64 0, .int .u64 0, .slice none 0 0, .slice none 0 0], .agg #[.int .u64 0, .int .u64 0, .int .u64 0, .slice none 0 0, .slice none 0 0]] 8 rfl (World.shaped_of_RefB (by kernel_rfl) (by kernel_rfl)) (by kernel_rfl) (by kernel_rfl) (by kernel_rfl) (start_met os _)) ?_
 intro W base args ds gs before hval0 hW hcnd hsz0 hL _
 have hsz : (DataW.weightsEach Tryd.prog (Tryd.f12.params.toList ++ Rows.semverTextsSpec.plain.varTypes Tryd.prog) (ds ++ gs)).all (· ≤ reachBytes) = true := hsz0
 have hval : ∀ (j : Nat) t v, Tryd.f12.params[j]? = some t → args[j]? = some v → Value.okWide Tryd.prog W .any base t v := hval0
 have hW' := hW
 obtain ⟨p, q, hA0, hV, rfl, hfz, hnd⟩ := hW
 have hA : DataW.TrodAll enc Tryd.prog W 0 (fun _ => true) true Tryd.f12.params.toList args.toList ds p := hA0
 rw [Tryd.params12] at hA hval hsz
 obtain ⟨v0, vs0, d0, ds0, p0, q0, hargs, rfl, rfl, h0, r0⟩ := trodAll_cons hA
 obtain ⟨v1, vs1, d1, ds1, p1, q1, rfl, rfl, rfl, h1, r1⟩ := trodAll_cons r0
 obtain ⟨rfl, rfl, rfl⟩ := trodAll_nil r1
 obtain rfl : args = #[v0, v1] := by cases args; simp_all
 obtain ⟨rfl, rfl⟩ := trodVars_none hV
 have k0 := h0
 have lt0 : ∀ x ∈ p0, x.block < W.heap.size := by obtain ⟨m, hm⟩ := k0; exact DataW.trod_lt m _ _ _ hm
 obtain ⟨fu0, hf0⟩ := h0
 have hf0_ := hf0
 obtain ⟨cs0, rfl, _⟩ := okWide_struct Tryd.underlying40 (hval 0 40 v0 rfl rfl)
 obtain ⟨x0, K0, V0⟩ := (op40 fu0) enc W 0 _ true fu0 _ _ (by omega) hf0
 obtain ⟨A0_3, c0_3, A0_4, c0_4, e0, hc0_3, hr0_3, hc0_4, hr0_4⟩ := k40_open K0
 obtain rfl : cs0 = #[.int .u64 x0.f0, .int .u64 x0.f1, .int .u64 x0.f2, .slice A0_3 x0.f3.length c0_3, .slice A0_4 x0.f4.length c0_4] := by cases cs0; simpa [Value.cells] using e0
 have k1 := h1
 have lt1 : ∀ x ∈ p1, x.block < W.heap.size := by obtain ⟨m, hm⟩ := k1; exact DataW.trod_lt m _ _ _ hm
 obtain ⟨fu1, hf1⟩ := h1
 have hf1_ := hf1
 obtain ⟨cs1, rfl, _⟩ := okWide_struct Tryd.underlying40 (hval 1 40 v1 rfl rfl)
 obtain ⟨x1, K1, V1⟩ := (op40 fu1) enc W 0 _ true fu1 _ _ (by omega) hf1
 obtain ⟨A1_3, c1_3, A1_4, c1_4, e1, hc1_3, hr1_3, hc1_4, hr1_4⟩ := k40_open K1
 obtain rfl : cs1 = #[.int .u64 x1.f0, .int .u64 x1.f1, .int .u64 x1.f2, .slice A1_3 x1.f3.length c1_3, .slice A1_4 x1.f4.length c1_4] := by cases cs1; simpa [Value.cells] using e1
 clear hA0 hval0 hsz0 hsz
 obtain ⟨k, h⟩ := Pure.SemverTexts x0.f0 x0.f1 x0.f2 x0.f3 x0.f4 x1.f0 x1.f1 x1.f2 x1.f3 x1.f4 V0.1 V0.2.1 V0.2.2.1 V0.2.2.2.1 V0.2.2.2.2 V1.1 V1.2.1 V1.2.2.1 V1.2.2.2.1 V1.2.2.2.2
 refine (X.ferrulelaw03_SemverTexts.calls k x0.f0 x0.f1 x0.f2 _ _ x0.f3 _ _ x0.f4 x1.f0 x1.f1 x1.f2 _ _ x1.f3 _ _ x1.f4 true W hr0_3 hc0_3 hr0_4 hc0_4 hr1_3 hc1_3 hr1_4 hc1_4 h (tab_of_laid hL (by kernel_rfl))).mono fun e W' ⟨he, bel0⟩ => ?_
 have bel : Below W.heap.size W W' := bel0
 subst he
 exact ⟨_, rfl, _, _, _, [], _, [], hW', trodAll_mk1 (shut_bool Tryd.underlying4 _), (trodAll_cons_mk (Below.trod laidOut (by kernel_rfl) (of_decide_eq_true (by kernel_rfl)) k0 bel lt0) (trodAll_cons_mk (Below.trod laidOut (by kernel_rfl) (of_decide_eq_true (by kernel_rfl)) k1 bel lt1) trodAll_mk0)), rfl, bel.frame _, fun h => by cases h⟩
theorem over : Rows.semverTextsRow.holds Tryd.pinned (OpenSpec.ofChange Rows.semverTextsSpec) :=
 OpenClaim.holds_of_wide 12 Tryd.f12 rfl rfl rfl rfl rfl rfl rfl ⟨rfl, rfl, rfl, rfl, rfl⟩ rfl rfl rfl rfl rfl (by kernel_rfl) Tryd.func12 (by kernel_rfl)
  (of_decide_eq_true (by kernel_rfl)) (by unfold Func.isWrapper; first | (rw [if_pos (by decide +kernel)]; kernel_rfl) | (rw [if_neg (by decide +kernel)]; exact ⟨rfl, rfl⟩))
  (fun os started H enc _ => lifted os started H enc)
theorem proved : Rows.SemverTextsSaid := over
#print axioms proved
end Go.Proofs.YtildmfegfkiknaaDoor.semverTexts
namespace Go.Proofs.YtildmfegfkiknaaDoor
/-- The tied card. -/
theorem semverTexts_holds : Rows.SemverTextsCardSaid :=
 Claim7.holds_tied_plain_at .later [] [.data, .data, .data, .data, .pinned] true (true, "1bd535f53ad66338a03e98a9bd4bdf6dda77f2f8b0c2907b592fff47d5d9ddd1") false
  semverTexts.proved (fun _ h => by cases h) (by kernel_rfl) (fun _ h => by cases h) semverTexts_row_tie rfl ⟨rfl, rfl⟩ (by kernel_rfl) rfl
  (fun f fn hf hfn => by
   obtain rfl : f = 12 := Option.some.inj ((show Tryd.prog.funcNamed Rows.semverTextsRow.func = some 12 by kernel_rfl).symm.trans hf) |>.symm
   obtain rfl : fn = Tryd.f12 := (Option.some.inj (Tryd.func12.symm.trans hfn)).symm
   exact ⟨by kernel_rfl, fun j t ht => by
    rw [Tryd.params12] at ht
    have hm : t ∈ [40, 40] := by simpa using Array.mem_of_getElem? ht
    have hall : ([40, 40].all fun u => !Tryd.prog.wantsStandIn u) = true := by kernel_rfl
    exact (show Tryd.prog.wantsStandIn t = false by simpa using List.all_eq_true.1 hall t hm)⟩)
  (by kernel_rfl)
#print axioms semverTexts_holds
end Go.Proofs.YtildmfegfkiknaaDoor
