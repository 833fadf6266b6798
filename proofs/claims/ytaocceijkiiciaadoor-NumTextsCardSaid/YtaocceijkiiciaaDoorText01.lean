/- Numerals of numbers: their digits, their value; what the document's own writer tells. -/
import Derived.Test.YtaocceijkiiciaaDoorIs01
import Derived.Lib.ItoaNum
import Derived.Lib.ItoaLen
import Derived.Test.YtaocceijkiiciaaDoorXn9
namespace Go.Proofs.YtaocceijkiiciaaDoor.Text01
open Go.RowKit Go.Proofs.YtaocceijkiiciaaDoor.X Go.Proofs.YtaocceijkiiciaaDoorW.PrintWords Go.Proofs.YtaocceijkiiciaaDoorW.PrintLast Go.Proofs.YtaocceijkiiciaaDoor.Aid Go.Proofs.YtaocceijkiiciaaDoor.Digits Go.Proofs.YtaocceijkiiciaaDoor.Is01

def txt (v : Int) : ByteArray := ⟨(Lib.decDigits v.toNat).toArray⟩
def dig (v : Int) : List Int := (Lib.decDigits v.toNat).map fun c => (c.toNat : Int)
theorem bs_txt (v : Int) : bytesOf (txt v) = dig v := rfl
theorem dig_one {v : Int} (h0 : 0 ≤ v) (h : v < 10) : dig v = [48 + v] := by
  unfold dig
  rw [Lib.decDigits_one (by omega)]
  simp only [List.map_cons, List.map_nil, UInt8.toNat_ofNat']
  congr 1
  omega
theorem dig_more {v : Int} (h : 10 ≤ v) : dig v = dig (v / 10) ++ [48 + v % 10] := by
  unfold dig
  rw [Lib.decDigits, dif_neg (by omega), List.map_append]
  have e : v.toNat / 10 = (v / 10).toNat := by omega
  rw [e]
  simp only [List.map_cons, List.map_nil, UInt8.toNat_ofNat']
  congr 2
  omega
theorem dig_all (n : Nat) : ∀ v : Int, v.toNat ≤ n → 0 ≤ v → (∀ c ∈ dig v, isd c = true) ∧ val (dig v) = v ∧ 1 ≤ (dig v).length ∧ (1 ≤ v → rd (dig v) 0 ≠ 48) := by
  induction n with
  | zero =>
    intro v hn h0
    rw [dig_one h0 (by omega)]
    refine ⟨fun c hc => ?_, ?_, by simp, fun h => by omega⟩
    · rw [List.mem_singleton.mp hc, isd_iff]; omega
    · simp [val]; omega
  | succ n ih =>
    intro v hn h0
    by_cases h : v < 10
    · rw [dig_one h0 h]
      refine ⟨fun c hc => ?_, ?_, by simp, fun h1 => ?_⟩
      · rw [List.mem_singleton.mp hc, isd_iff]; omega
      · simp [val]; omega
      · show (48 + v : Int) ≠ 48
        omega
    · obtain ⟨i1, i2, i3, i4⟩ := ih (v / 10) (by omega) (by omega)
      rw [dig_more (by omega)]
      refine ⟨fun c hc => ?_, ?_, ?_, fun _ => ?_⟩
      · rcases List.mem_append.mp hc with hc | hc
        · exact i1 c hc
        · rw [List.mem_singleton.mp hc, isd_iff]; omega
      · rw [val_snoc, i2]; omega
      · rw [List.length_append]; omega
      · have := i4 (by omega)
        unfold rd at this ⊢
        rw [List.getD_eq_getElem?_getD] at this ⊢
        rw [List.getElem?_append_left (by exact i3)]
        exact this
theorem dig_isd {v : Int} (h0 : 0 ≤ v) : ∀ c ∈ dig v, isd c = true := (dig_all _ v (Nat.le_refl _) h0).1
theorem dig_val {v : Int} (h0 : 0 ≤ v) : val (dig v) = v := (dig_all _ v (Nat.le_refl _) h0).2.1
theorem dig_pos {v : Int} (h0 : 0 ≤ v) : 1 ≤ (dig v).length := (dig_all _ v (Nat.le_refl _) h0).2.2.1
theorem dig_lead {v : Int} (h0 : 1 ≤ v) : rd (dig v) 0 ≠ 48 := (dig_all _ v (Nat.le_refl _) (by omega)).2.2.2 h0
theorem dig_len (v : Int) (h : v < 18446744073709551616) : (dig v).length ≤ 20 := by
  unfold dig
  rw [List.length_map, Lib.decDigits_length]
  exact Lib.nDigits_le20 _ (by omega)
theorem dig_zero : dig 0 = [48] := dig_one (by omega) (by omega)
theorem dig_num {v : Int} (h0 : 0 ≤ v) : isNum (dig v) = true := by
  unfold isNum
  rw [Bool.and_eq_true]
  refine ⟨List.all_eq_true.mpr (dig_isd h0), ?_⟩
  by_cases h : v = 0
  · rw [h, dig_zero]; rfl
  · rw [decide_eq_true (dig_pos h0), decide_eq_true (dig_lead (v := v) (by omega))]; simp
theorem txt_size (v : Int) (h : v < 18446744073709551616) : (txt v).size ≤ 20 := by
  have := dig_len v h
  rwa [← bs_txt, bs_length] at this
theorem one_byte (x : Int) (h : 0 ≤ x ∧ x < 256) : bytesOf (strOfNums [x]) = [x] := bs_ofNums [x] (fun y hy => by rw [List.mem_singleton.mp hy]; exact h)

theorem ref_loop (n : Nat) : ∀ (v : Int) (rest s : ByteArray), v.toNat ≤ n → 0 ≤ v → v < 18446744073709551616 → bytesOf s = (48 + v % 10) :: bytesOf rest → rest.size + (dig v).length ≤ 1000 →
    Ev (fun k => ferruleref01_Text.l0 k v s) (txt v ++ rest) := by
  induction n with
  | zero =>
    intro v rest s hn h0 _ hs _
    refine Ev.step (fun k => by rw [ferruleref01_Text.l0]) (ev_neg (by omega) (ev_now ?_))
    refine bs_inj ?_
    rw [bs_append, bs_txt, dig_one h0 (by omega), hs, Int.emod_eq_of_lt h0 (by omega)]; rfl
  | succ n ih =>
    intro v rest s hn h0 hv hs hl
    refine Ev.step (fun k => by rw [ferruleref01_Text.l0]) ?_
    by_cases h : v > 9
    · refine ev_pos h (ev_bind (Ev.now _) ?_)
      have hm := dig_more (v := v) (by omega)
      have e1 : IntKind.u64.wrap (Int.tdiv v 10) = v / 10 := by rw [Int.tdiv_eq_ediv_of_nonneg h0, wrapu64_in (by omega) (by omega)]
      have e2 : IntKind.u64.wrap (48 + Int.tmod (v / 10) 10) % 256 = 48 + v / 10 % 10 := by
        rw [Int.tmod_eq_emod_of_nonneg (by omega), wrapu64_in (by omega) (by omega)]; omega
      rw [e1, e2]
      have hb : bytesOf (strOfNums [48 + v / 10 % 10] ++ s) = (48 + v / 10 % 10) :: bytesOf s := by rw [bs_append, one_byte _ (by omega)]; rfl
      have hss : s.size = rest.size + 1 := by
        have := congrArg List.length hs
        rwa [bs_length, List.length_cons, bs_length] at this
      have h1 : (strOfNums [48 + v / 10 % 10]).size = 1 := by
        have := congrArg List.length (one_byte (48 + v / 10 % 10) (by omega))
        rwa [bs_length] at this
      have hml : (dig v).length = (dig (v / 10)).length + 1 := by rw [hm, List.length_append]; rfl
      refine ev_pos (by omega) ?_
      have := ih (v / 10) s (strOfNums [48 + v / 10 % 10] ++ s) (by omega) (by omega) (by omega) hb (by omega)
      rw [show txt v ++ rest = txt (v / 10) ++ s from bs_inj (by rw [bs_append, bs_append, bs_txt, bs_txt, hm, hs, List.append_assoc]; rfl)]
      exact this
    · refine ev_neg h (ev_now ?_)
      refine bs_inj ?_
      rw [bs_append, bs_txt, dig_one h0 (by omega), hs, Int.emod_eq_of_lt h0 (by omega)]; rfl
theorem reftext_ev (v : Int) (h0 : 0 ≤ v) (h : v < 18446744073709551616) : Ev (fun k => ferruleref01_Text.f k v) (txt v) := by
  unfold ferruleref01_Text.f
  have e2 : IntKind.u64.wrap (48 + Int.tmod v 10) % 256 = 48 + v % 10 := by
    rw [Int.tmod_eq_emod_of_nonneg h0, wrapu64_in (by omega) (by omega)]; omega
  rw [e2]
  have := ref_loop _ v ByteArray.empty (strOfNums [48 + v % 10]) (Nat.le_refl _) h0 h (by rw [one_byte _ (by omega)]; rfl) (by have := dig_len v h; show 0 + _ ≤ _; omega)
  rwa [show txt v ++ ByteArray.empty = txt v from bs_inj (by rw [bs_append]; simp [bytesOf])] at this
end Go.Proofs.YtaocceijkiiciaaDoor.Text01
