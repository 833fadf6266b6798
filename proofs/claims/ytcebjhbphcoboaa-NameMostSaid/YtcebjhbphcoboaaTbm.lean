/- So many names, and no more (ferrulelaw08.NameMost): the walk of the law, by hand over the table's contracts. -/
import Derived.Test.YtcebjhbphcoboaaTba
import Derived.Test.YtcebjhbphcoboaaName08
namespace Go.Proofs.Ytcebjhbphcoboaa.Tbl
open Go Go.RowKit Go.Maps Go.Proofs.Ytcebjhbphcoboaa.X Go.Proofs.YtcebjhbphcoboaaW.PrintWords Go.Proofs.YtcebjhbphcoboaaW.PrintLast Go.Proofs.YtcebjhbphcoboaaW.PrintMore Go.Proofs.Ytcebjhbphcoboaa.Aid Go.Proofs.Ytcebjhbphcoboaa.Name08
set_option linter.unusedVariables false
set_option linter.unusedSimpArgs false
def cs (j : Nat) : List Int := [97 + (j : Int) % 16, 97 + (j : Int) / 16 % 16, 97 + (j : Int) / 256 % 16, 97 + (j : Int) / 4096]
def nm (j : Nat) : ByteArray := strOfNums (cs j)
theorem cs_byte (j : Nat) (h : j ≤ 4100) : ∀ x ∈ cs j, 0 ≤ x ∧ x < 256 := by
  intro x hx
  simp only [cs, List.mem_cons, List.not_mem_nil, or_false] at hx
  rcases hx with rfl | rfl | rfl | rfl <;> omega
theorem bytes_nm (j : Nat) (h : j ≤ 4100) : bytesOf (nm j) = cs j := bs_ofNums _ (cs_byte j h)
theorem nm_inj {i j : Nat} (hi : i ≤ 4100) (hj : j ≤ 4100) (h : nm i = nm j) : i = j := by
  have h2 : cs i = cs j := by rw [← bytes_nm i hi, ← bytes_nm j hj, h]
  simp only [cs, List.cons.injEq, and_true] at h2
  omega
theorem size_nm (j : Nat) (h : j ≤ 4100) : (nm j).size = 4 := by
  rw [← bs_length, bytes_nm j h]; rfl
theorem good_nm (j : Nat) (h : j ≤ 4100) : ∃ k, name_Good.f k (nm j) = some true := by
  have hE := good_p (nm j) (by rw [size_nm j h]; omega)
  have hc := cs_byte j h
  have : goodP (nm j) = true := by
    have hf : firstP (97 + (j : Int) % 16) = true := by simp [firstP]; omega
    have hrun : run [97 + (j : Int) / 16 % 16, 97 + (j : Int) / 256 % 16, 97 + (j : Int) / 4096] = 3 := by
      have e1 : byteP (97 + (j : Int) / 16 % 16) = true := by simp [byteP, firstP]; omega
      have e2 : byteP (97 + (j : Int) / 256 % 16) = true := by simp [byteP, firstP]; omega
      have e3 : byteP (97 + (j : Int) / 4096) = true := by simp [byteP, firstP]; omega
      simp [run, List.takeWhile_cons, e1, e2, e3]
    have hs : scanP (bytesOf (nm j)) 0 = (4, 0) := by
      rw [bytes_nm j h]
      unfold scanP scanN cs
      simp [hf, hrun, fin]
    unfold goodP
    rw [hs, size_nm j h]
    rfl
  rw [this] at hE
  exact hE.rounds
/-- The first n names. -/
def nms (n : Nat) : List ByteArray := (List.range n).map nm
theorem mem_nms {n j : Nat} (hn : n ≤ 4100) (hj : j ≤ 4100) : mem (nms n) (nm j) = decide (j < n) := by
  rw [Bool.eq_iff_iff, mem_iff]
  simp only [nms, List.mem_map, List.mem_range, decide_eq_true_iff]
  constructor
  · rintro ⟨i, hi, he⟩
    rw [← nm_inj (by omega) hj he]; exact hi
  · exact fun h => ⟨j, h, rfl⟩
theorem nms_length (n : Nat) : (nms n).length = n := by simp [nms]
theorem nms_succ (n : Nat) : nms (n + 1) = nms n ++ [nm n] := by simp [nms, List.range_succ]
/-- One more name. -/
theorem add_nms (j : Nat) (h : j ≤ 4100) : addL (nms (min j 4096)) (nm j) true = nms (min (j + 1) 4096) ∧ addN (nms (min j 4096)) (nm j) true = (if j < 4096 then (j : Int) else 0) ∧ addE (nms (min j 4096)) (nm j) true = if j < 4096 then 0 else 9 := by
  have hm : mem (nms (min j 4096)) (nm j) = false := by rw [mem_nms (by omega) h]; simp; omega
  unfold addL addN addE
  rw [hm, nms_length]
  simp only [Bool.false_eq_true, if_false, Bool.not_true]
  by_cases hj : j < 4096
  · rw [show min j 4096 = j by omega, show min (j + 1) 4096 = j + 1 by omega, nms_succ, if_neg (show ¬ j = 4096 by omega), if_neg (show ¬ j = 4096 by omega), if_neg (show ¬ j = 4096 by omega), if_pos hj, if_pos hj]
    exact ⟨rfl, rfl, rfl⟩
  · rw [show min j 4096 = 4096 by omega, show min (j + 1) 4096 = 4096 by omega, if_pos rfl, if_pos rfl, if_pos rfl, if_neg hj, if_neg hj]
    exact ⟨rfl, rfl, rfl⟩
/-- The first one once more. -/
theorem add_first (k : Nat) : addN (nms (min k 4096)) (nm 0) true = 0 ∧ addE (nms (min k 4096)) (nm 0) true = 0 ∧ (addL (nms (min k 4096)) (nm 0) true).length = max (min k 4096) 1 := by
  unfold addL addN addE
  rw [mem_nms (by omega) (by omega)]
  by_cases h : 0 < min k 4096
  · rw [decide_eq_true h, if_pos rfl, if_pos rfl, if_pos rfl, nms_length]
    refine ⟨?_, rfl, by omega⟩
    obtain ⟨m, hm⟩ : ∃ m, min k 4096 = m + 1 := ⟨min k 4096 - 1, by omega⟩
    unfold num
    rw [mem_nms (by omega) (by omega), decide_eq_true h, if_pos rfl, hm]
    simp [nms, List.range_succ_eq_map, List.findIdx_cons]
  · rw [decide_eq_false h, show min k 4096 = 0 by omega]
    simp [nms]

theorem new_bytes (xs : List Int) (t : Nat) (W : World) (hl : xs.length ≤ 9223372036854775807) : (Kd.int .u8).C (W.alloc (.cells (xs.map (Value.int .u8)).toArray t)) (some ⟨W.heap.size, 0, none⟩) xs.length xs := by
  refine ⟨rfl, hl, fun _ => ⟨_, rfl, fun j p hj => ⟨[.int .u8 p], rfl, rfl, fun i u hu => ?_⟩⟩⟩
  cases i with
  | succ i => simp at hu
  | zero =>
    obtain rfl : Value.int .u8 p = u := by simpa using hu
    have hn := heap_alloc_new W (.cells (xs.map (Value.int .u8)).toArray t)
    show (W.alloc (.cells (xs.map (Value.int .u8)).toArray t)).cell? ((⟨W.heap.size, 0, none⟩ : Addr).add (j * 1 + 0)) = _
    rw [show j * 1 + 0 = j by omega, show (⟨W.heap.size, 0, none⟩ : Addr).add j = ⟨W.heap.size, 0 + j, none⟩ from by unfold Addr.add; split <;> simp_all]
    simp only [World.cell?, hn]
    simp [hj]
theorem conv4 (W : World) (a b c d : Int) : (convert 22 9 (.slice (some ⟨W.heap.size, 0, none⟩) 4 4)).run Try.prog (W.alloc (.cells #[.int .u8 a, .int .u8 b, .int .u8 c, .int .u8 d] 5)) = .ok (.string (strOfNums [a, b, c, d])) (W.alloc (.cells #[.int .u8 a, .int .u8 b, .int .u8 c, .int .u8 d] 5)) :=
  Kd.C_string (P := Try.prog) (c := 4) Try.underlying22 Try.underlying5 Try.underlying9 (new_bytes [a, b, c, d] 5 W (by simp))

theorem addTo {w : World} {base g : Nat} {S : Nat → Prop} {l : List ByteArray} {s : ByteArray} (h : Tab w base g S l) (hS : ∀ k, w.heap.size ≤ k → S k) (hs : s.size ≤ maxLen) (hg : ∃ k, name_Good.f k s = some true) :
    Calls Try.prog 17 #[.pointer (some ⟨g, 0, none⟩), .string s] w fun e w' => e = .returned (.tuple #[.int .i64 (addN l s true), .int .i64 (addE l s true)]) ∧ Tab w' base g S (addL l s true) ∧ Below base w w' := by
  obtain ⟨k, hk⟩ := hg
  exact (add_calls h s hs k true hk).mono fun e w' ⟨he, hT, hC⟩ => ⟨he, hT.mono (fun k hk => hk.elim id (hS k)), hC.1⟩

theorem tab_len {w : World} {base g : Nat} {S : Nat → Prop} {l : List ByteArray} (h : Tab w base g S l) : Calls Try.prog 18 #[.pointer (some ⟨g, 0, none⟩)] w fun e w' => e = .returned (.int .i64 l.length) ∧ w' = w := by
  obtain ⟨mv, sv, h1, h2, h3, h4, h5, h6⟩ := h
  obtain ⟨p, c, rfl⟩ := own_slice h5
  exact len_calls (cell_far h1 1 _ rfl)
set_option maxHeartbeats 4000000 in
set_option maxRecDepth 100000 in
theorem most_calls (n : Nat) (hn : n ≤ 65535) (w : World) : Calls Try.prog 4 #[.int .u16 n] w fun e w' => e = .returned (.bool true) ∧ Below w.heap.size w w' := by
  have hk : (n % 4101 : Nat) ≤ 4100 := by omega
  go_enter Try.func4, Try.ntmps4
  go_wp2_with (first
    | (go_at_call 12; with_reducible refine (awake_calls _).mono ?_; rintro e w1 ⟨rfl, hB1⟩))
  rw [show ((n : Int) % 4101) = ((n % 4101 : Nat) : Int) by omega]
  generalize n % 4101 = k at hk ⊢
  have hT0 := tab_new w1 (base := w.heap.size) (S := fun q => w.heap.size ≤ q) hB1.size hB1.size
  go_loopw [5] (fun i wr => ∃ j : Nat, j ≤ k ∧ i = .int .i64 j ∧ Tab wr w.heap.size w1.heap.size (fun q => w.heap.size ≤ q) (nms (min j 4096)) ∧ Below w.heap.size w wr)
    (fun i _ => k - (intOf i).toNat)
  case atStart => exact ⟨0, Nat.zero_le _, rfl, hT0, hB1.alloc hB1.size _⟩
  case round =>
    obtain ⟨j, hj, rfl, hT, hB⟩ := hrel
    have fin : ∀ wr', Below w.heap.size wr wr' → Below w.heap.size w wr' := fun wr' h => hB.trans h
    by_cases hj1 : j < k
    · have hjI : (j : Int) < k := by omega
      have hcv := conv4 wr (97 + (j : Int) % 16) (97 + (j : Int) / 16 % 16) (97 + (j : Int) / 256 % 16) (97 + (j : Int) / 4096)
      have hadd := addTo (s := nm j) (hT.below (Below.alloc (Below.refl wr.heap.size wr) (Nat.le_refl _) (.cells #[.int .u8 (97 + (j : Int) % 16), .int .u8 (97 + (j : Int) / 16 % 16), .int .u8 (97 + (j : Int) / 256 % 16), .int .u8 (97 + (j : Int) / 4096)] 5))) (fun q hq => by have := hB.size; simp at hq; omega) (by rw [size_nm j (by omega)]; decide) (good_nm j (by omega))
      obtain ⟨e1, e2, e3⟩ := add_nms j (by omega)
      rw [e1, e2, e3, show nm j = strOfNums [97 + (j : Int) % 16, 97 + (j : Int) / 16 % 16, 97 + (j : Int) / 256 % 16, 97 + (j : Int) / 4096] from rfl] at hadd
      by_cases hj2 : j < 4096
      · have hj2I : (j : Int) < 4096 := by omega
        rw [if_pos hj2, if_pos hj2] at hadd
        go_wp2_with (first
          | (go_at_call 17; with_reducible refine hadd.mono ?_; rintro e w3 ⟨rfl, hT3, hB3⟩))
        exact ⟨⟨j + 1, by omega, rfl, hT3, hB.trans ((Below.alloc (Below.refl _ _) hB.size _).trans hB3)⟩, by simp [intOf]; omega⟩
      · have hj2I : ¬ (j : Int) < 4096 := by omega
        have hj3I : (4096 : Int) ≤ j := by omega
        rw [if_neg hj2, if_neg hj2] at hadd
        go_wp2_with (first
          | (go_at_call 17; with_reducible refine hadd.mono ?_; rintro e w3 ⟨rfl, hT3, hB3⟩))
        exact ⟨⟨j + 1, by omega, rfl, hT3, hB.trans ((Below.alloc (Below.refl _ _) hB.size _).trans hB3)⟩, by simp [intOf]; omega⟩
    · have hj1I : ¬ (j : Int) < k := by omega
      obtain rfl : j = k := by omega
      have hadd := addTo (s := nm 0) hT (fun q hq => by have := hB.size; omega) (by rw [size_nm 0 (by omega)]; decide) (good_nm 0 (by omega))
      obtain ⟨e1, e2, e3⟩ := add_first j
      rw [e1, e2, show nm 0 = ⟨#[97, 97, 97, 97]⟩ from by decide] at hadd
      rw [show nm 0 = ⟨#[97, 97, 97, 97]⟩ from by decide] at e3
      go_wp2_with (first
        | (go_at_call 17; with_reducible refine hadd.mono ?_; rintro e w3 ⟨rfl, hT3, hB3⟩; have hlen := tab_len hT3; rw [e3] at hlen)
        | (go_at_call 18; with_reducible refine hlen.mono ?_; rintro e w' ⟨rfl, hw⟩; obtain rfl := hw.symm))
      go_ret
      exact ⟨rfl, hB.trans hB3⟩
end Go.Proofs.Ytcebjhbphcoboaa.Tbl
