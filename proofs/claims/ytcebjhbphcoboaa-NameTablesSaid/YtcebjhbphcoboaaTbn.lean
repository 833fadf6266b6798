/- Whatever names are added (ferrulelaw08.NameTables): the walk of the law, by hand over the table's contracts. -/
import Derived.Test.YtcebjhbphcoboaaTba
import Derived.Test.YtcebjhbphcoboaaName08
import Derived.Test.YtcebjhbphcoboaaOrd08
namespace Go.Proofs.Ytcebjhbphcoboaa.Tbl
open Go Go.RowKit Go.Maps Go.Proofs.Ytcebjhbphcoboaa.X Go.Proofs.YtcebjhbphcoboaaW.PrintWords Go.Proofs.YtcebjhbphcoboaaW.PrintLast Go.Proofs.YtcebjhbphcoboaaW.PrintMore Go.Proofs.Ytcebjhbphcoboaa.Aid Go.Proofs.Ytcebjhbphcoboaa.Name08
set_option linter.unusedVariables false
set_option linter.unusedSimpArgs false
theorem tab_len' {w : World} {base g : Nat} {S : Nat → Prop} {l : List ByteArray} (h : Tab w base g S l) : Calls Try.prog 18 #[.pointer (some ⟨g, 0, none⟩)] w fun e w' => e = .returned (.int .i64 l.length) ∧ w' = w := by
  obtain ⟨mv, sv, h1, h2, h3, h4, h5, h6⟩ := h
  obtain ⟨p, c, rfl⟩ := own_slice h5
  exact len_calls (cell_far h1 1 _ rfl)
set_option maxRecDepth 100000 in
theorem name_in {w : World} {base g : Nat} {S : Nat → Prop} {l : List ByteArray} (h : Tab w base g S l) (i : Nat) (hi : i < l.length) :
    Calls Try.prog 21 #[.pointer (some ⟨g, 0, none⟩), .int .i64 i] w fun e w' => e = .returned (.string l[i]) ∧ w' = w := by
  have hlen := tab_len' h
  obtain ⟨mv, sv, h1, h2, h3, h4, h5, h6⟩ := h
  rcases h5.2 with ⟨_, h⟩ | ⟨rb, cap, cur, rfl, _⟩
  · omega
  · have hc1 := cell_far h1 1 _ rfl
    have hcell := row_cell h5 i (.string l[i]) (by simp [hi])
    have hI : (i : Int) < l.length := by omega
    have hI2 : ((l.length : Int) ≤ i) = False := by simp; omega
    generalize l[i] = s at hcell ⊢
    go_enter Try.func21, Try.ntmps21
    go_wp2_with (go_at_call 18; with_reducible refine hlen.mono ?_; rintro e w' ⟨rfl, hw⟩; obtain rfl := hw.symm)
    go_ret
    exact ⟨rfl, rfl⟩
set_option maxRecDepth 100000 in
theorem name_neg {w : World} {base g : Nat} {S : Nat → Prop} {l : List ByteArray} (h : Tab w base g S l) :
    Calls Try.prog 21 #[.pointer (some ⟨g, 0, none⟩), .int .i64 (-1)] w fun e w' => e = .returned (.string ⟨#[]⟩) ∧ w' = w := by
  go_enter Try.func21, Try.ntmps21
  go_wp2
  go_ret
  exact ⟨rfl, rfl⟩
set_option maxRecDepth 100000 in
theorem name_end {w : World} {base g : Nat} {S : Nat → Prop} {l : List ByteArray} (h : Tab w base g S l) :
    Calls Try.prog 21 #[.pointer (some ⟨g, 0, none⟩), .int .i64 l.length] w fun e w' => e = .returned (.string ⟨#[]⟩) ∧ w' = w := by
  have hlen := tab_len' h
  have h0 : ((l.length : Int) < 0) = False := by simp
  go_enter Try.func21, Try.ntmps21
  go_wp2_with (go_at_call 18; with_reducible refine hlen.mono ?_; rintro e w' ⟨rfl, hw⟩; obtain rfl := hw.symm)
  go_ret
  exact ⟨rfl, rfl⟩
theorem C_of_own {w : World} {base : Nat} {v : Value} {l : List ByteArray} (h : w.ownsRow base 9 1 v l.length (l.map Value.string)) : ∃ A c, v = .slice A l.length c ∧ l.length ≤ c ∧ Kd.C Kd.string w A l.length l := by
  obtain ⟨p, c, rfl⟩ := own_slice h
  have hR : Kd.R Kd.string 9 w base (fun _ => True) (.slice p l.length c) l := ⟨fun _ _ => trivial, encs Value.string l, ⟨by show (encs Value.string l).length = l.length * 1; simp [encs], h.2⟩, Kd.reps_scalar l⟩
  have := Kd.R_reads' hR
  exact ⟨p, c, rfl, this.2.1, this.2.2⟩
theorem own_of_R {w : World} {base : Nat} {ok : Nat → Prop} {v : Value} {l : List Int} (h : Kd.R (Kd.int .i64) 3 w base ok v l) : w.ownsRow base 3 1 v l.length (l.map (Value.int .i64)) := by
  obtain ⟨h0, inner, ho, hr⟩ := h
  obtain rfl := Kd.reps_encs hr
  exact ho

/-- The names behind the first j texts. -/
def addG (l : List ByteArray) (s : ByteArray) : List ByteArray := addL l s (goodP s)
def tabL (l0 : List ByteArray) : Nat → List ByteArray
  | 0 => []
  | j + 1 => addG (tabL l0 j) (rdOf ByteArray.empty l0 j)
theorem addL_le (l : List ByteArray) (s : ByteArray) (gd : Bool) : (addL l s gd).length ≤ l.length + 1 := by
  unfold addL
  (repeat' split) <;> simp
theorem tabL_le (l0 : List ByteArray) : ∀ j, (tabL l0 j).length ≤ j
  | 0 => Nat.le_refl _
  | j + 1 => Nat.le_trans (addL_le _ _ _) (Nat.succ_le_succ (tabL_le l0 j))
theorem addL_good {l : List ByteArray} {s x : ByteArray} (h : ∀ x ∈ l, goodP x = true) (hx : x ∈ addG l s) : goodP x = true := by
  unfold addG addL at hx
  split at hx
  · exact h x hx
  · split at hx
    · exact h x hx
    · rename_i hg
      split at hx
      · exact h x hx
      · rcases List.mem_append.mp hx with hx | hx
        · exact h x hx
        · simp at hx; subst hx; simpa using hg
theorem tabL_good (l0 : List ByteArray) : ∀ j, ∀ x ∈ tabL l0 j, goodP x = true
  | 0, x, h => by simp [tabL] at h
  | j + 1, x, h => addL_good (tabL_good l0 j) h
theorem Tab.within {w : World} {base g : Nat} {S : Nat → Prop} {l : List ByteArray} (h : Tab w base g S l) : Tab w base g (fun k => S k ∧ k < w.heap.size) l := by
  obtain ⟨mv, sv, h1, h2, h3, h4, h5, h6, h7, h8⟩ := h
  refine ⟨mv, sv, h1, h2, ⟨h3, blk_lt h1⟩, ?_, h5, fun k hk => ⟨h6 k hk, (h5.lt k hk).2⟩, h7, h8⟩
  rcases h4 with h | ⟨b, D, e1, e2, e3, e4, e5⟩
  · exact .inl h
  · exact .inr ⟨b, D, e1, e2, ⟨e3, e4.lt⟩, e4, e5⟩
theorem own_kept {w w' : World} {base e n : Nat} {v : Value} {xs : List Value} {S : Nat → Prop} (h : w.ownsRow base e 1 v n xs) (hk : Kept w w' S) (hv : ∀ k, v.ownBlock = some k → ¬ S k) : w'.ownsRow base e 1 v n xs := by
  refine ⟨h.1, ?_⟩
  rcases h.2 with h | ⟨k, cap, cur, rfl, h2, h3, h4⟩
  · exact .inl h
  · exact .inr ⟨k, cap, cur, rfl, h2, (hk.2 k (blk_lt h3) (hv k rfl)).trans h3, h4⟩
theorem own_below {w w' : World} {base e n : Nat} {v : Value} {xs : List Value} (h : w.ownsRow base e 1 v n xs) (hb : Below w.heap.size w w') : w'.ownsRow base e 1 v n xs := h.kept (grown_of_below hb none) (by cases v.ownBlock <;> simp)

/-- What is held at the head of a round: the table, and the document's row beside it. -/
structure At (l0 : List ByteArray) (w w1 wr : World) (j : Nat) (S : Nat → Prop) (v : Value) : Prop where
  tab : Tab wr w.heap.size w1.heap.size S (tabL l0 j)
  row : wr.ownsRow w.heap.size 9 1 v (tabL l0 j).length ((tabL l0 j).map Value.string)
  apart : ∀ k, v.ownBlock = some k → ¬ S k
  inside : ∀ k, S k → k < wr.heap.size
  below : Below w.heap.size w wr
def Ind (l0 : List ByteArray) (w w1 wr : World) (j : Nat) (v : Value) : Prop := ∃ S, At l0 w w1 wr j S v

theorem num_at {l : List ByteArray} {s : ByteArray} (h : mem l s = true) : ∃ ix : Nat, num l s = (ix : Int) ∧ ∃ hlt : ix < l.length, l[ix] = s := by
  have hlt : l.findIdx (fun x => decide (x = s)) < l.length := List.findIdx_lt_length.mpr (by simpa [mem] using h)
  refine ⟨l.findIdx (fun x => decide (x = s)), by unfold num; rw [h, if_pos rfl], hlt, ?_⟩
  have := List.findIdx_getElem (w := hlt)
  simpa using this
theorem ordL_length (l : List ByteArray) : (ordL l).length = l.length := by simp [ordL, ordF_length]
theorem addr_of {w : World} {base e n c : Nat} {p : Option Addr} {xs : List Value} (h : w.ownsRow base e 1 (.slice p n c) n xs) (hn : 0 < n) : ∃ g, p = some ⟨g, 0, none⟩ := by
  rcases h.2 with ⟨_, h⟩ | ⟨b, cap, cur, e, _⟩
  · omega
  · cases e; exact ⟨_, rfl⟩
/-- Within a round. -/
structure Md (w w1 W : World) (S : Nat → Prop) (l : List ByteArray) (v : Value) (a : Addr) (s : ByteArray) : Prop where
  tab : Tab W w.heap.size w1.heap.size S l
  row : W.ownsRow w.heap.size 9 1 v l.length (l.map Value.string)
  apart : ∀ k, v.ownBlock = some k → ¬ S k
  inside : ∀ k, S k → k < W.heap.size
  below : Below w.heap.size w W
  cell : W.cell? a = some (.string s)
theorem cell_below {W W' : World} {a : Addr} {v : Value} (h : W.cell? a = some v) (hb : Below W.heap.size W W') : W'.cell? a = some v :=
  (World.cell?_of_block (hb.block _ (World.block_lt_of_cell? W a h))).trans h
theorem Md.step {w w1 W W' : World} {S : Nat → Prop} {l : List ByteArray} {v : Value} {a : Addr} {s : ByteArray} (h : Md w w1 W S l v a s) (hb : Below W.heap.size W W') : Md w w1 W' S l v a s :=
  ⟨h.tab.below hb, own_below h.row hb, h.apart, fun k hk => Nat.lt_of_lt_of_le (h.inside k hk) hb.size, h.below.trans (hb.mono h.below.size), cell_below h.cell hb⟩
theorem cell_below' {w W : World} {a : Addr} {v : Value} (h : w.cell? a = some v) (hb : Below w.heap.size w W) : W.cell? a = some v := cell_below h hb
/-- The table has taken one more: the row beside it is as it was, of the elder names. -/
structure Md2 (w w1 W : World) (S : Nat → Prop) (l l' : List ByteArray) (v : Value) (a : Addr) (s : ByteArray) : Prop where
  tab : Tab W w.heap.size w1.heap.size S l'
  row : W.ownsRow w.heap.size 9 1 v l.length (l.map Value.string)
  apart : ∀ k, v.ownBlock = some k → ¬ S k
  inside : ∀ k, S k → k < W.heap.size
  below : Below w.heap.size w W
  cell : W.cell? a = some (.string s)
theorem Md2.step {w w1 W W' : World} {S : Nat → Prop} {l l' : List ByteArray} {v : Value} {a : Addr} {s : ByteArray} (h : Md2 w w1 W S l l' v a s) (hb : Below W.heap.size W W') : Md2 w w1 W' S l l' v a s :=
  ⟨h.tab.below hb, own_below h.row hb, h.apart, fun k hk => Nat.lt_of_lt_of_le (h.inside k hk) hb.size, h.below.trans (hb.mono h.below.size), cell_below h.cell hb⟩
theorem Md.added {w w1 W W' : World} {S : Nat → Prop} {l l' : List ByteArray} {v : Value} {a : Addr} {s : ByteArray} (h : Md w w1 W S l v a s) (hT : Tab W' w.heap.size w1.heap.size (fun k => S k ∨ W.heap.size ≤ k) l') (hC : Ch w.heap.size S W W') (ha : a.block < w.heap.size) :
    Md2 w w1 W' (fun k => (S k ∨ W.heap.size ≤ k) ∧ k < W'.heap.size) l l' v a s := by
  refine ⟨hT.within, own_kept h.row hC.2 h.apart, fun k hk hs => ?_, fun k hk => hk.2, h.below.trans hC.1, (World.cell?_of_block (hC.1.block _ ha)).trans h.cell⟩
  rcases hs.1 with h1 | h1
  · exact h.apart k hk h1
  · have := (h.row.lt k hk).2
    omega
theorem Md2.same {w w1 W : World} {S : Nat → Prop} {l : List ByteArray} {v : Value} {a : Addr} {s : ByteArray} (h : Md2 w w1 W S l l v a s) : Md w w1 W S l v a s := ⟨h.tab, h.row, h.apart, h.inside, h.below, h.cell⟩
/-- The row beside the table has taken it, too. -/
theorem Md2.put {w w1 W W1 : World} {S : Nat → Prop} {l : List ByteArray} {v v' : Value} {a : Addr} {s : ByteArray} {o : Obj} (h : Md2 w w1 W S l (l ++ [s]) v a s) (ha : a.block < w.heap.size) (hr : W1.ownsRow w.heap.size 9 1 v' (l.length + 1) (l.map Value.string ++ [.string s])) (hg : (W.alloc o).grownBy W1 v.ownBlock)
    (hat : v'.ownBlock = v.ownBlock ∨ v'.ownBlock = some (W.alloc o).heap.size) : Md w w1 W1 S (l ++ [s]) v' a s := by
  have hv : ∀ k, v.ownBlock = some k → w.heap.size ≤ k := fun k hk => (h.row.lt k hk).1
  have hsz := hg.size
  simp at hsz
  have hB : Below w.heap.size w W1 := (h.below.alloc h.below.size o).grown hg (by have := h.below.size; simp; omega) hv
  refine ⟨h.tab.later fun i hi hs => ?_, by simpa using hr, fun k hk => ?_, fun k hk => Nat.lt_of_lt_of_le (h.inside k hk) (by omega), hB, ?_⟩
  · refine (hg.block i (by simp; omega) (fun e => h.apart i e.symm hs)).trans ?_
    exact RowKit.Below.heap_alloc W o i hi
  · rcases hat with e | e
    · exact h.apart k (e ▸ hk)
    · rw [e] at hk
      obtain rfl := Option.some.inj hk
      intro hs
      have := h.inside _ hs
      simp at this
      omega
  · have h1 : w.cell? a = some (.string s) := (World.cell?_of_block (h.below.block _ ha)).symm.trans h.cell
    exact (World.cell?_of_block (hB.block _ ha)).trans h1

set_option maxHeartbeats 4000000 in
set_option maxRecDepth 100000 in
theorem tables_calls (A0 : Option Addr) (c0 : Nat) (l0 : List ByteArray) (a1 : ByteArray) (w : World) (hr0 : Kd.C Kd.string w A0 l0.length l0) (hc0 : l0.length ≤ c0) :
    Calls Try.prog 6 #[.slice A0 l0.length c0, .string a1] w fun e w' => e = .returned (.bool true) ∧ Below w.heap.size w w' := by
  by_cases h60 : 60 < l0.length
  · have h60I : (60 : Int) < (l0.length : Int) := by omega
    go_enter Try.func6, Try.ntmps6
    go_wp2_with (go_at_call 12; with_reducible refine (awake_calls _).mono ?_; rintro e w1 ⟨rfl, hB1⟩)
    go_ret
    exact ⟨rfl, hB1⟩
  by_cases h300 : 300 < a1.size
  · have h60I : ¬ (60 : Int) < (l0.length : Int) := by omega
    have h300I : (300 : Int) < (a1.size : Int) := by omega
    go_enter Try.func6, Try.ntmps6
    go_wp2_with (go_at_call 12; with_reducible refine (awake_calls _).mono ?_; rintro e w1 ⟨rfl, hB1⟩)
    go_ret
    exact ⟨rfl, hB1⟩
  have h60I : ¬ (60 : Int) < (l0.length : Int) := by omega
  have h300I : ¬ (300 : Int) < (a1.size : Int) := by omega
  go_enter Try.func6, Try.ntmps6
  go_wp2_with (go_at_call 12; with_reducible refine (awake_calls _).mono ?_; rintro e w1 ⟨rfl, hB1⟩)
  have hT0 := tab_new w1 (base := w.heap.size) (S := fun q => q = w1.heap.size) hB1.size rfl
  go_loopw [6, 7] (fun v i wr => ∃ j : Nat, j ≤ l0.length ∧ i = .int .i64 j ∧ Ind l0 w w1 wr j v)
    (fun _ i _ => l0.length - (intOf i).toNat)
  case atStart => exact ⟨0, Nat.zero_le _, rfl, _, hT0, World.ownsRow_nil (w1.alloc (.cells #[.map none, .slice none 0 0] 36)) w.heap.size 9 1, by simp [Value.ownBlock], by rintro k rfl; simp, hB1.alloc hB1.size _⟩
  case round =>
    obtain ⟨j, hj, rfl, S, hT, hrow, hap, hin, hB⟩ := hrel
    by_cases hj1 : j < l0.length
    · have hjI : (j : Int) < (l0.length : Int) := by omega
      obtain ⟨ad, rfl, hcell0⟩ := Kd.at_string hr0 (j : Int) (by omega) hjI
      rw [Int.toNat_natCast] at hcell0
      have hstep : tabL l0 (j + 1) = addG (tabL l0 j) (rdOf ByteArray.empty l0 j) := rfl
      have hgl := tabL_good l0 j
      have hle := tabL_le l0 j
      have back : ∀ W v S a s, Md w w1 W S (tabL l0 (j + 1)) v a s → (∃ j' : Nat, j' ≤ l0.length ∧ Value.int .i64 ((j : Int) + 1) = .int .i64 (j' : Int) ∧ Ind l0 w w1 W j' v) ∧ l0.length - (intOf (Value.int .i64 ((j : Int) + 1))).toNat < l0.length - (intOf (Value.int .i64 (j : Int))).toNat := by
        intro W v S a s h
        exact ⟨⟨j + 1, by omega, rfl, S, h.tab, h.row, h.apart, h.inside, h.below⟩, by simp [intOf]; omega⟩
      rw [hstep] at back
      generalize rdOf ByteArray.empty l0 (j : Int) = s at hcell0 back
      have hcell : wr.cell? (ad.add j) = some (.string s) := cell_below' hcell0 hB
      have ha := World.block_lt_of_cell? w _ hcell0
      have hM : Md w w1 wr S (tabL l0 j) u6 (ad.add j) s := ⟨hT, hrow, hap, hin, hB, hcell⟩
      generalize tabL l0 j = l at hM hgl hle back
      clear hT hrow hap hin
      by_cases hs : 300 < s.size
      · have hsI : (300 : Int) < (s.size : Int) := by omega
        go_wp2
        go_ret
        exact ⟨rfl, hB⟩
      have hsI : ¬ (300 : Int) < (s.size : Int) := by omega
      obtain ⟨kf, hkf⟩ := find_ev l s (by omega)
      obtain ⟨kg, hkg⟩ := (good_p s (by omega)).rounds
      obtain ⟨kr, hkr⟩ := (good_r s (by omega)).rounds
      have hadd := add_calls hM.tab s (by unfold maxLen; omega) kg (goodP s) hkg
      have hfind : ∀ W S l', Md2 w w1 W S l l' u6 (ad.add j) s → ∃ A c, u6 = .slice A l.length c ∧ Calls Try.prog 20 #[.slice A l.length c, .string s] W fun e w' => e = .returned (.int .i64 (findP l s)) ∧ Drawn0 W w' := by
        intro W S l' h
        obtain ⟨A, c, e, h1, h2⟩ := C_of_own h.row
        exact ⟨A, c, e, ferruleref08_Find.calls kf A c l s _ W h2 h1 hkf⟩
      have hgood := fun W => ferruleref08_Good.calls kr s (goodP s) W hkr
      obtain ⟨pv, cv, rfl⟩ := own_slice hM.row
      have hnf : l.length ≠ 4096 := by omega
      by_cases hg : goodP s = true
      · by_cases hm : mem l s = true
        · have e1 : addL l s (goodP s) = l := by unfold addL; rw [hm]; simp
          have e2 : addN l s (goodP s) = num l s := by unfold addN; rw [hm]; simp
          have e3 : addE l s (goodP s) = 0 := by unfold addE; rw [hm]; simp
          have e4 : findP l s = num l s := by unfold findP; rw [hm]; simp
          have e5 : addG l s = l := e1
          obtain ⟨ix, hix, hlt, hget⟩ := num_at hm
          rw [e1, e2, e3, hix] at hadd
          rw [e4, hix] at hfind
          rw [hg] at hgood
          rw [e5] at back
          have hix0 : ¬ (ix : Int) < 0 := by omega
          go_wp2_with (first
            | (go_at_call 17; with_reducible refine hadd.mono ?_; rintro e w2 ⟨rfl, hT2, hC2⟩; have hM2 := hM.added hT2 hC2 ha; have hc2 := hM2.cell; obtain ⟨A2, c2, hv2, hf2⟩ := hfind _ _ _ hM2; cases hv2)
            | (go_at_call 20; with_reducible refine hf2.mono ?_; rintro e w3 ⟨rfl, hD3⟩; have hM3 := hM2.step hD3.below; have hc3 := hM3.cell)
            | (go_at_call 16; with_reducible refine (hgood _).mono ?_; rintro e w4 ⟨rfl, hD4⟩; have hM4 := hM3.step hD4.below; have hc4 := hM4.cell))
          have hlen5 : ∀ n, Calls Try.prog 18 #[.pointer (some ⟨w1.heap.size, 0, none⟩)] (w4.drewN n) _ := fun n => tab_len' (hM4.step (pw_below_drewN (Below.refl _ _) n)).tab
          have hname5 : ∀ n, Calls Try.prog 21 #[.pointer (some ⟨w1.heap.size, 0, none⟩), .int .i64 ix] (w4.drewN n) _ := fun n => name_in (hM4.step (pw_below_drewN (Below.refl _ _) n)).tab ix hlt
          rw [hget] at hname5
          go_quiet (first
            | (go_at_call 18; exact Calls.quiet_of_same (hlen5 _))
            | (go_at_call 21; exact Calls.quiet_of_same (hname5 _)))
          go_wp2
          exact back _ _ _ _ _ (hM4.step (pw_below_drewN (Below.refl _ _) _)).same
        · simp only [Bool.not_eq_true] at hm
          have e1 : addL l s (goodP s) = l ++ [s] := by unfold addL; rw [hm, hg]; simp [hnf]
          have e2 : addN l s (goodP s) = l.length := by unfold addN; rw [hm, hg]; simp [hnf]
          have e3 : addE l s (goodP s) = 0 := by unfold addE; rw [hm, hg]; simp [hnf]
          have e4 : findP l s = -1 := by unfold findP; rw [hm]; simp
          have e5 : addG l s = l ++ [s] := e1
          obtain ⟨i0, hi, hz0, hz1, hz2⟩ := info_parts info9
          rw [e1, e2, e3] at hadd
          rw [e4] at hfind
          rw [hg] at hgood
          rw [e5] at back
          go_wp2_with (first
            | (go_at_call 17; with_reducible refine hadd.mono ?_; rintro e w2 ⟨rfl, hT2, hC2⟩; have hM2 := hM.added hT2 hC2 ha; have hc2 := hM2.cell; obtain ⟨A2, c2, hv2, hf2⟩ := hfind _ _ _ hM2; cases hv2)
            | (go_at_call 20; with_reducible refine hf2.mono ?_; rintro e w3 ⟨rfl, hD3⟩; have hM3 := hM2.step hD3.below; have hc3 := hM3.cell)
            | (go_at_call 16; with_reducible refine (hgood _).mono ?_; rintro e w4 ⟨rfl, hD4⟩; have hM4 := hM3.step hD4.below; have hc4 := hM4.cell)
            | (at_builtin; refine wpList_append_own_at _ rfl _ _ 34 rfl w.heap.size 9 i0 (.string ⟨#[]⟩) 1 16 Try.underlying34 hi hz0 hz1 hz2 rfl (by decide) _ l.length _ rfl (hM4.row.alloc _) ⟨w4.heap.size, 0, none⟩ 1 1 [.string s] rfl rfl (cell_one_new _ _ _) (by simp [Value.oneCell']) (by unfold maxLen; omega) (by omega) (by have := hM4.below.size; simp; omega) ?_; intro v' w5 hown5 hgrow5 hnil5 hblk5; have hM5 := hM4.put ha hown5 hgrow5 hblk5; have hc5 := hM5.cell; obtain ⟨p5, c5, rfl⟩ := own_slice hown5))
          have hlen5 : ∀ n, Calls Try.prog 18 #[.pointer (some ⟨w1.heap.size, 0, none⟩)] (w5.drewN n) _ := fun n => tab_len' (hM5.step (pw_below_drewN (Below.refl _ _) n)).tab
          have hname5 : ∀ n, Calls Try.prog 21 #[.pointer (some ⟨w1.heap.size, 0, none⟩), .int .i64 (l.length : Nat)] (w5.drewN n) _ := fun n => name_in (hM5.step (pw_below_drewN (Below.refl _ _) n)).tab l.length (by simp)
          rw [show (l ++ [s])[l.length] = s by simp] at hname5
          rw [show (l ++ [s]).length = l.length + 1 by simp] at hlen5
          go_quiet (first
            | (go_at_call 18; exact Calls.quiet_of_same (hlen5 _))
            | (go_at_call 21; exact Calls.quiet_of_same (hname5 _)))
          go_wp2
          exact back _ _ _ _ _ (hM5.step (pw_below_drewN (Below.refl _ _) _))
      · have hm : mem l s = false := by
          rw [Bool.eq_false_iff]
          intro h
          exact hg (hgl s (mem_iff.mp h))
        simp only [Bool.not_eq_true] at hg
        have e1 : addL l s (goodP s) = l := by unfold addL; rw [hm, hg]; simp
        have e2 : addN l s (goodP s) = 0 := by unfold addN; rw [hm, hg]; simp
        have e3 : addE l s (goodP s) = 12 := by unfold addE; rw [hm, hg]; simp
        have e4 : findP l s = -1 := by unfold findP; rw [hm]; simp
        have e5 : addG l s = l := e1
        rw [e1, e2, e3] at hadd
        rw [e4] at hfind
        rw [hg] at hgood
        rw [e5] at back
        go_wp2_with (first
          | (go_at_call 17; with_reducible refine hadd.mono ?_; rintro e w2 ⟨rfl, hT2, hC2⟩; have hM2 := hM.added hT2 hC2 ha; have hc2 := hM2.cell; obtain ⟨A2, c2, hv2, hf2⟩ := hfind _ _ _ hM2; cases hv2)
          | (go_at_call 20; with_reducible refine hf2.mono ?_; rintro e w3 ⟨rfl, hD3⟩; have hM3 := hM2.step hD3.below; have hc3 := hM3.cell)
          | (go_at_call 16; with_reducible refine (hgood _).mono ?_; rintro e w4 ⟨rfl, hD4⟩; have hM4 := hM3.step hD4.below; have hc4 := hM4.cell))
        exact back _ _ _ _ _ hM4.same
    · have hjI : ¬ (j : Int) < (l0.length : Int) := by omega
      have hle := tabL_le l0 j
      generalize tabL l0 j = l at hT hrow hle
      obtain ⟨pv, cv, rfl⟩ := own_slice hrow
      obtain ⟨kf, hkf⟩ := find_ev l a1 (by omega)
      have hnd : l.Nodup := by obtain ⟨mv, sv, h1, h2, h3, h4, h5, h6, h7, h8⟩ := hT; exact h8
      obtain ⟨ko, hko⟩ := order_ev (l := l) (by omega) hnd
      have hfd := find_calls hT a1 (by unfold maxLen; omega)
      obtain ⟨A, c, hv, hcc, hC⟩ := C_of_own hrow
      cases hv
      have hrf := ferruleref08_Find.calls kf pv cv l a1 _ wr hC hcc hkf
      have hneI : ((l.length : Int) != (l.length : Int)) = false := by simp
      rcases Bool.eq_false_or_eq_true (mem l a1) with hm | hm
      case' inl =>
        obtain ⟨ix, hix, hlt, hget⟩ := num_at hm
        have e4 : findP l a1 = ix := by unfold findP; rw [hm, hix]; simp
        rw [e4] at hrf
        rw [hm, hix] at hfd
        have hix0 : ¬ (ix : Int) < 0 := by omega
        have hix1 : (0 : Int) ≤ (ix : Int) := by omega
        go_wp2_with (first
          | (go_at_call 22; with_reducible refine hfd.mono ?_; rintro e w' ⟨rfl, hw⟩; obtain rfl := hw.symm)
          | (go_at_call 20; with_reducible refine hrf.mono ?_; rintro e w3 ⟨rfl, hD3⟩; have hT3 := hT.below hD3.below; have hrow3 := own_below hrow hD3.below; have hB3 := hB.trans (hD3.below.mono hB.size); have hn1 := name_neg hT3; have hn2 := name_end hT3)
          | (go_at_call 21; with_reducible refine hn1.mono ?_; rintro e w' ⟨rfl, hw⟩; obtain rfl := hw.symm)
          | (go_at_call 21; with_reducible refine hn2.mono ?_; rintro e w' ⟨rfl, hw⟩; obtain rfl := hw.symm)
          | (go_at_call 23; refine (order hT3).mono ?_; rintro e w5 ⟨vg, rfl, hg5, hB5⟩; obtain ⟨pg, cg, rfl⟩ := own_slice hg5; have hrow5 := own_below hrow3 hB5; obtain ⟨A5, c5, hv5, hcc5, hC5⟩ := C_of_own hrow5; cases hv5; have hro := ferruleref08_Order.calls ko pv cv l _ w5 hC5 hcc5 hko)
          | (go_at_call 24; with_reducible refine hro.mono ?_; rintro e w6 ⟨vw, rfl, hR6, hB6⟩; have hw6 := own_of_R hR6; rw [ordL_length] at hw6; have hg6 := own_below hg5 hB6; obtain ⟨pw, cw, rfl⟩ := own_slice hw6))
      case' inr =>
        have e4 : findP l a1 = -1 := by unfold findP; rw [hm]; simp
        rw [e4] at hrf
        rw [hm, show num l a1 = 0 by unfold num; rw [hm]; simp] at hfd
        go_wp2_with (first
          | (go_at_call 22; with_reducible refine hfd.mono ?_; rintro e w' ⟨rfl, hw⟩; obtain rfl := hw.symm)
          | (go_at_call 20; with_reducible refine hrf.mono ?_; rintro e w3 ⟨rfl, hD3⟩; have hT3 := hT.below hD3.below; have hrow3 := own_below hrow hD3.below; have hB3 := hB.trans (hD3.below.mono hB.size); have hn1 := name_neg hT3; have hn2 := name_end hT3)
          | (go_at_call 21; with_reducible refine hn1.mono ?_; rintro e w' ⟨rfl, hw⟩; obtain rfl := hw.symm)
          | (go_at_call 21; with_reducible refine hn2.mono ?_; rintro e w' ⟨rfl, hw⟩; obtain rfl := hw.symm)
          | (go_at_call 23; refine (order hT3).mono ?_; rintro e w5 ⟨vg, rfl, hg5, hB5⟩; obtain ⟨pg, cg, rfl⟩ := own_slice hg5; have hrow5 := own_below hrow3 hB5; obtain ⟨A5, c5, hv5, hcc5, hC5⟩ := C_of_own hrow5; cases hv5; have hro := ferruleref08_Order.calls ko pv cv l _ w5 hC5 hcc5 hko)
          | (go_at_call 24; with_reducible refine hro.mono ?_; rintro e w6 ⟨vw, rfl, hR6, hB6⟩; have hw6 := own_of_R hR6; rw [ordL_length] at hw6; have hg6 := own_below hg5 hB6; obtain ⟨pw, cw, rfl⟩ := own_slice hw6))
      all_goals
        have hB6' : Below w.heap.size w w6 := (hB3.trans (hB5.mono hB3.size)).trans (hB6.mono (Nat.le_trans hB3.size hB5.size))
        go_loopw [16] (fun i wr => ∃ q : Nat, q ≤ l.length ∧ i = .int .i64 q ∧ ∃ m, wr = w6.drewN m) (fun i _ => l.length - (intOf i).toNat)
        case atStart => exact ⟨0, Nat.zero_le _, rfl, 0, rfl⟩
        case round =>
          obtain ⟨q, hq, rfl, m, rfl⟩ := hrel
          by_cases hq1 : q < l.length
          · have hqI : (q : Int) < (l.length : Int) := by omega
            have hql : q < (ordL l).length := by rw [ordL_length]; exact hq1
            obtain ⟨rg, rfl⟩ := addr_of hg6 (by omega)
            obtain ⟨rw_, rfl⟩ := addr_of hw6 (by omega)
            have hcg := row_cell hg6 q (.int .i64 (ordL l)[q]) (by simp [hql])
            have hcw := row_cell hw6 q (.int .i64 (ordL l)[q]) (by simp [hql])
            generalize (ordL l)[q] = z at hcg hcw
            go_wp2_with fail
            go_quiet (fail)
            go_wp2
            exact ⟨⟨q + 1, by omega, rfl, _, rfl⟩, by simp [intOf]; omega⟩
          · have hqI : ¬ (q : Int) < (l.length : Int) := by omega
            go_wp2
            go_ret
            exact ⟨rfl, hB6'.trans (pw_below_drewN (Below.refl _ _) m)⟩
end Go.Proofs.Ytcebjhbphcoboaa.Tbl
