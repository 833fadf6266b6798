/- Plain helpers for the pure statements: rounds, bytes of a text as numbers, wraps. No program in sight. -/
import Derived.Test.YtohgjbkiemnfnaaWa
import Derived.Test.YtohgjbkiemnfnaaWb
import Derived.Test.YtohgjbkiemnfnaaLab
import Derived.Laws.BytesArg
import Derived.Lib.Bytes
import Derived.Lib.Bytealg
namespace Go.Proofs.Ytohgjbkiemnfnaa.Aid
open Go.RowKit Go.Proofs.YtohgjbkiemnfnaaW.PrintWords Go.Proofs.YtohgjbkiemnfnaaW.PrintLast

theorem ev_pos {α : Type} {c : Prop} [Decidable c] {f g : Nat → Option α} {r : α} (h : c) (k : Ev f r) : Ev (fun n => if c then f n else g n) r := by
  refine Ev.congr (fun n => ?_) k; rw [if_pos h]
theorem ev_neg {α : Type} {c : Prop} [Decidable c] {f g : Nat → Option α} {r : α} (h : ¬ c) (k : Ev g r) : Ev (fun n => if c then f n else g n) r := by
  refine Ev.congr (fun n => ?_) k; rw [if_neg h]
theorem ev_bind {α β : Type} {g : Nat → Option α} {f : Nat → α → Option β} {a : α} {r : β} (h : Ev g a) (k : Ev (fun n => f n a) r) : Ev (fun n => (g n).bind (fun x => f n x)) r := Ev.bind h k
theorem ev_now {α : Type} {r r' : α} (h : r = r') : Ev (fun _ => some r) r' := h ▸ Ev.now r
theorem ev_done {α : Type} {o : Option α} {r' : α} (h : o = some r') : Ev (fun _ => o) r' := ⟨0, fun _ _ => h⟩

theorem wrap64_in {x : Int} (h0 : -9223372036854775808 ≤ x) (h1 : x < 9223372036854775808) : wrap64 x = x := by unfold wrap64; omega
theorem wrapu64 (x : Int) : IntKind.u64.wrap x = x % 18446744073709551616 := rfl
theorem wrapu64_in {x : Int} (h0 : 0 ≤ x) (h1 : x < 18446744073709551616) : IntKind.u64.wrap x = x := by rw [wrapu64]; omega

theorem bs_length (s : ByteArray) : (bytesOf s).length = s.size := bytesOf_length s
theorem bs_bytes (s : ByteArray) : ∀ x ∈ bytesOf s, 0 ≤ x ∧ x < 256 := by
  intro x hx
  simp only [bytesOf, List.mem_map] at hx
  obtain ⟨c, _, rfl⟩ := hx
  have := c.toNat_lt
  omega
theorem bt_bs (s : ByteArray) (i : Int) : bt s i = rd (bytesOf s) i := (rd_bytesOf s i).symm
theorem bs_inj {a b : ByteArray} (h : bytesOf a = bytesOf b) : a = b := by
  obtain ⟨⟨la⟩⟩ := a
  obtain ⟨⟨lb⟩⟩ := b
  simp only [bytesOf] at h
  have h2 : la = lb := by
    have hinj : Function.Injective fun c : UInt8 => (c.toNat : Int) := fun x y hxy => UInt8.toNat_inj.mp (Int.ofNat_inj.mp hxy)
    exact (List.map_inj_right (fun x y hxy => hinj hxy)).mp h
  rw [h2]
theorem bs_append (a b : ByteArray) : bytesOf (a ++ b) = bytesOf a ++ bytesOf b := by simp [bytesOf, ByteArray.data_append]
theorem bs_extract (s : ByteArray) (i j : Nat) : bytesOf (s.extract i j) = ((bytesOf s).take j).drop i := by
  simp only [bytesOf, ByteArray.data_extract, Array.toList_extract, List.extract, List.map_take, List.map_drop]
  rw [List.drop_take]
theorem bs_ofNums (xs : List Int) (h : ∀ x ∈ xs, 0 ≤ x ∧ x < 256) : bytesOf (strOfNums xs) = xs := by
  simp only [bytesOf, strOfNums_data, List.map_map]
  conv => rhs; rw [← List.map_id xs]
  apply List.map_congr_left
  intro x hx
  have := h x hx
  simp only [Function.comp_apply, id_eq]
  rw [UInt8.toNat_ofNat']
  omega
theorem u8_wf {l : List Int} (h : ∀ x ∈ l, (Lit.int .u8 x).wf = true) : ∀ x ∈ l, 0 ≤ x ∧ x < 256 := by
  intro x hx
  have := h x hx
  simp only [Lit.wf, IntKind.min, IntKind.max, IntKind.signed, IntKind.bits, Bool.and_eq_true] at this
  simp at this
  omega
theorem toList_data (s : ByteArray) : s.toList = s.data.toList := ByteArray.toList_eq s
/-- A text against a text that is written out: by their numbers. -/
theorem toList_eq_iff (s : ByteArray) (l : List UInt8) : s.toList = l ↔ bytesOf s = l.map fun c => (c.toNat : Int) := by
  rw [toList_data]
  unfold bytesOf
  constructor
  · intro h; rw [h]
  · intro h
    exact (List.map_inj_right (fun x y hxy => UInt8.toNat_inj.mp (Int.ofNat_inj.mp hxy))).mp h
/-- How lists of numbers stand. -/
def lessI : List Int → List Int → Bool
  | _, [] => false
  | [], _ :: _ => true
  | a :: x, b :: y => decide (a < b) || (decide (a = b) && lessI x y)
theorem less_map : ∀ a b : List UInt8, Op.bytesLess a b = lessI (a.map fun c => (c.toNat : Int)) (b.map fun c => (c.toNat : Int))
  | [], [] => rfl
  | _ :: _, [] => rfl
  | [], _ :: _ => rfl
  | a :: x, b :: y => by
    simp only [Op.bytesLess, List.map_cons, lessI, less_map x y]
    congr 1
    · simp only [decide_eq_decide, UInt8.lt_iff_toNat_lt]; omega
    · congr 1
      rw [Bool.eq_iff_iff]
      simp only [beq_iff_eq, decide_eq_true_eq]
      constructor
      · intro h; rw [h]
      · intro h; exact UInt8.toNat_inj.mp (Int.ofNat_inj.mp h)
theorem less_bs (a b : ByteArray) : Op.bytesLess a.toList b.toList = lessI (bytesOf a) (bytesOf b) := by rw [toList_data, toList_data, less_map]; rfl
theorem rd_of {l : List Int} {i : Int} (h0 : 0 ≤ i) (h : i < l.length) : rd l i = l[i.toNat]'(by omega) := by
  unfold rd
  rw [List.getD_eq_getElem?_getD, List.getElem?_eq_getElem (by omega)]
  rfl
end Go.Proofs.Ytohgjbkiemnfnaa.Aid
