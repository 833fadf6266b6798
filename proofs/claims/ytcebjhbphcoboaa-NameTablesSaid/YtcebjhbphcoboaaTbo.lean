/- The table of names: the order of its numbers: the closure that compares, and Order's loop. Walks by hand. -/
import Derived.Test.YtcebjhbphcoboaaTbl
import Derived.Test.YtcebjhbphcoboaaXn57
import Derived.Deep.QuietTactic
import Derived.BigQuiet
import Derived.Sort.Walk0
import Derived.Shelf.SlSortCmp.NoneTotal
import Derived.Test.YtcebjhbphcoboaaLaySort
namespace Go.Proofs.Ytcebjhbphcoboaa.Tbl
open Go Go.RowKit Go.Maps Go.Proofs.Ytcebjhbphcoboaa.X Go.Proofs.YtcebjhbphcoboaaW.PrintWords Go.Proofs.YtcebjhbphcoboaaW.PrintLast Go.Proofs.YtcebjhbphcoboaaW.PrintMore
set_option linter.unusedVariables false
set_option linter.unusedSimpArgs false

/-- How two names stand. -/
def cmpN (a b : ByteArray) : Int := Lib.compareBytes a.data.toList b.data.toList

set_option maxRecDepth 100000 in
theorem clo_calls {W : World} {bx g rb n c : Nat} (h1 : W.cell? ⟨bx, 0, none⟩ = some (.pointer (some ⟨g, 0, none⟩))) (h2 : W.cell? ⟨g, 1, none⟩ = some (.slice (some ⟨rb, 0, none⟩) n c))
    (x y : Nat) (hx : x < n) (hy : y < n) (a b : ByteArray) (h3 : W.cell? ⟨rb, x, none⟩ = some (.string a)) (h4 : W.cell? ⟨rb, y, none⟩ = some (.string b)) :
    Calls Try.prog 56 #[.int .i64 x, .int .i64 y, .pointer (some ⟨bx, 0, none⟩)] W fun e w' => e = .returned (.int .i64 (cmpN a b)) ∧ ∃ q, w' = W.drewN q := by
  have hc := fun W => strings_Compare.calls a b (cmpN a b) W rfl
  have hx1 : (x : Int) < n := by omega
  have hy1 : (y : Int) < n := by omega
  go_enter Try.func56, Try.ntmps56
  go_wp2_with fail
  go_quiet (first | (go_at_call 57; exact Calls.quiet_of ((hc _).mono fun e w1 h => ⟨h.1, h.2.out⟩)))
  go_wp2
  go_ret
  exact ⟨rfl, _, rfl⟩

open Go.Sort
theorem compare_lt : ∀ a b : List UInt8, Lib.compareBytes a b = if a < b then -1 else if b < a then 1 else 0
  | [], [] => by simp [Lib.compareBytes]
  | [], _ :: _ => by simp [Lib.compareBytes]
  | _ :: _, [] => by simp [Lib.compareBytes]
  | a :: x, b :: y => by
    have ih := compare_lt x y
    unfold Lib.compareBytes
    simp only [List.cons_lt_cons_iff]
    by_cases h1 : a < b
    · simp [h1]
    · rw [if_neg h1]
      by_cases h2 : b < a
      · have h3 : ¬ a = b := fun e => by subst e; simp at h2
        simp [h1, h2, h3]
      · have e : a = b := UInt8.le_antisymm (UInt8.not_lt.mp h2) (UInt8.not_lt.mp h1)
        subst e
        rw [if_neg h2, ih]
        simp [h1]
theorem cmpN_neg (a b : ByteArray) : decide (cmpN a b < 0) = ltStr a.data.toList b.data.toList := by
  unfold cmpN ltStr
  rw [compare_lt, decide_eq_decide]
  by_cases h : a.data.toList < b.data.toList
  · simp [h]
  · rw [if_neg h]
    split <;> simp [h]
/-- How the names of two numbers stand. -/
def cfF (l : List ByteArray) (x y : Fin l.length) : Int := cmpN l[x] l[y]
theorem lt_cfF (l : List ByteArray) (x y : Fin l.length) : ltOf (cfF l) x y = ltStr (l[x]).data.toList (l[y]).data.toList := cmpN_neg _ _
theorem swoF (l : List ByteArray) : SWO (ltOf (cfF l)) where
  irrefl x := by rw [lt_cfF]; exact swo_ltStr.irrefl _
  trans x y z h1 h2 := by rw [lt_cfF] at *; exact swo_ltStr.trans _ _ _ h1 h2
  ntrans x y z h1 h2 := by rw [lt_cfF] at *; exact swo_ltStr.ntrans _ _ _ h1 h2
theorem apartF {l : List ByteArray} (hd : l.Nodup) (x y : Fin l.length) (h1 : ltOf (cfF l) x y = false) (h2 : ltOf (cfF l) y x = false) : x = y := by
  rw [lt_cfF] at h1 h2
  simp only [ltStr, decide_eq_false_iff_not, List.not_lt] at h1 h2
  have h3 := List.le_antisymm h2 h1
  have h4 : l[x] = l[y] := key_inj (by unfold key; rw [h3])
  exact Fin.ext ((List.getElem_inj hd).mp h4)
/-- The numbers, as their names stand. -/
def ordF (l : List ByteArray) : List (Fin l.length) := (List.finRange l.length).mergeSort fun x y => !(ltOf (cfF l) y x)
def ordL (l : List ByteArray) : List Int := (ordF l).map fun i => (i.val : Int)
def encF {n : Nat} (i : Fin n) : Value := .int .i64 i.val

theorem put_all {α : Type} [Inhabited α] {enc : α → Value} {d : List α} {cur : Array Value} (hn : d.length ≤ cur.size) : (putCells enc 0 d.toArray cur).toList.take d.length = d.map enc := by
  apply List.ext_getElem?
  intro j
  by_cases hj : j < d.length
  · have h3 : j < cur.size := by omega
    rw [List.getElem?_take, if_pos hj, Array.getElem?_toList, putCells, Array.getElem?_mapIdx, Array.getElem?_eq_getElem h3, Option.map_some, if_pos ⟨Nat.zero_le _, by simpa using hj⟩, List.getElem?_map, List.getElem?_eq_getElem hj, Option.map_some, Nat.sub_zero, getElem!_pos d.toArray j (by simpa using hj)]
    rfl
  · rw [List.getElem?_eq_none (by simp; omega), List.getElem?_eq_none (by simp; omega)]
theorem sort_blk {α : Type} [Inhabited α] {enc : α → Value} {w : World} {g m k : Nat} {d : Array α} {os : Array Obj} {o : Obj} (h : w.heap[k]? = some o) (hk : k ≠ g) : (sortWorld enc w g 0 m d os).heap[k]? = some o := by
  unfold sortWorld
  rw [heap_grow_old _ _ (by simpa using blk_lt h)]
  simp only [putRow, mapBlock, heap_ahead, Array.getElem?_modify]
  rw [if_neg (by omega)]
  exact h
theorem sort_own {α : Type} [Inhabited α] {enc : α → Value} {w : World} {g cap base e m : Nat} {cur : Array Value} {d : List α} {os : Array Obj} (hb : base ≤ g) (hg : w.heap[g]? = some (.cells cur e (0, 0))) (hn : d.length ≤ cap) (hc : cap ≤ maxLen) (hs : cur.size = cap) :
    (sortWorld enc w g 0 m d.toArray os).ownsRow base e 1 (.slice (some ⟨g, 0, none⟩) d.length cap) d.length (d.map enc) := by
  have h2 : (sortWorld enc w g 0 m d.toArray os).heap[g]? = some (.cells (putCells enc 0 d.toArray cur) e (0, 0)) := by
    unfold sortWorld
    rw [heap_grow_old _ _ (by simpa using blk_lt hg)]
    simp only [putRow, mapBlock, heap_ahead, Array.getElem?_modify, if_pos]
    rw [hg]; rfl
  exact ⟨by simp, .inr ⟨g, cap, _, rfl, hb, h2, hn, hc, by simpa [putCells] using hs, by rw [Nat.mul_one]; exact put_all (by omega)⟩⟩

theorem info3 : (Try.prog.info? 3).map (fun i => (i.zero, i.size, i.bytes)) = some (some (.int .i64 0), 1, 8) := by kernel_rfl
theorem row_cell {w : World} {base e n : Nat} {rb cap : Nat} {xs : List Value} (h : w.ownsRow base e 1 (.slice (some ⟨rb, 0, none⟩) n cap) n xs) (j : Nat) (u : Value) (hu : xs[j]? = some u) : w.cell? ⟨rb, j, none⟩ = some u := by
  have := h.cells (g := rb) rfl j u hu
  rwa [show (⟨rb, 0, none⟩ : Addr).add j = ⟨rb, j, none⟩ by unfold Addr.add; split <;> simp_all] at this

/-- The row of the first k numbers. -/
def upto (k : Nat) : List Value := (List.range k).map fun (i : Nat) => Value.int .i64 (i : Int)
theorem upto_succ (k : Nat) : upto (k + 1) = upto k ++ [.int .i64 (k : Int)] := by simp [upto, List.range_succ]
theorem upto_fin (n : Nat) : upto n = (List.finRange n).map encF := by
  unfold upto encF
  apply List.ext_getElem?
  intro j
  by_cases hj : j < n
  · rw [List.getElem?_map, List.getElem?_map, List.getElem?_eq_getElem (by simpa using hj), List.getElem?_eq_getElem (by simpa using hj)]
    simp
  · rw [List.getElem?_eq_none (by simp; omega), List.getElem?_eq_none (by simp; omega)]

set_option maxHeartbeats 1000000 in
set_option maxRecDepth 100000 in
theorem order_calls {w : World} {base g : Nat} {S : Nat → Prop} {l : List ByteArray} (h : Tab w base g S l)
    (hsort : ∀ (p : Option Addr) (c : Nat) (wr : World), wr.ownsRow (w.heap.size + 1) 3 1 (.slice p l.length c) l.length (upto l.length) → Below (w.heap.size + 1) (w.alloc (.cells #[.pointer (some ⟨g, 0, none⟩)] 32)) wr →
      Calls Try.prog 55 #[.slice p l.length c, .func (.func 56) #[] #[.pointer (some ⟨w.heap.size, 0, none⟩)]] wr fun e w' => e = .returned (.tuple #[]) ∧ w'.ownsRow (w.heap.size + 1) 3 1 (.slice p l.length c) l.length ((ordL l).map (Value.int .i64)) ∧ Below (w.heap.size + 1) wr w') :
    Calls Try.prog 23 #[.pointer (some ⟨g, 0, none⟩)] w fun e w' => ∃ v, e = .returned v ∧ w'.ownsRow (w.heap.size + 1) 3 1 v l.length ((ordL l).map (Value.int .i64)) ∧ Below w.heap.size w w' := by
  obtain ⟨i0, hi, hz0, hz1, hz2⟩ := info_parts info3
  obtain ⟨mv, sv, h1, h2, h3, h4, h5, h6, h7, h8⟩ := h
  obtain ⟨p, c, rfl⟩ := own_slice h5
  have hgl := blk_lt h1
  generalize hn : l.length = n at *
  have hb1 := blk_alloc h1 (.cells #[.pointer (some ⟨g, 0, none⟩)] 32)
  have hc1 := cell_far hb1 1 _ rfl
  have hbx := cell_far (blk_new w (.cells #[.pointer (some ⟨g, 0, none⟩)] 32)) 0 _ rfl
  go_enter Try.func23, Try.ntmps23
  go_wp2
  go_loopw [3, 10] (fun v i wr => ∃ k : Nat, k ≤ n ∧ i = .int .i64 k ∧ wr.ownsRow (w.heap.size + 1) 3 1 v k (upto k) ∧ Below (w.heap.size + 1) (w.alloc (.cells #[.pointer (some ⟨g, 0, none⟩)] 32)) wr)
    (fun _ i _ => n - (intOf i).toNat)
  case atStart => exact ⟨0, Nat.zero_le _, rfl, World.ownsRow_nil (w.alloc (.cells #[.pointer (some ⟨g, 0, none⟩)] 32)) (w.heap.size + 1) 3 1, Below.refl _ _⟩
  case round =>
    obtain ⟨k, hk, rfl, hrow, hB⟩ := hrel
    go_wp2_with (first
      | (at_builtin; refine wpList_append_own_at _ rfl _ _ 46 rfl (w.heap.size + 1) 3 i0 (.int .i64 0) 1 8 Try.underlying46 hi hz0 hz1 hz2 rfl (by decide) _ k _ rfl (hrow.alloc _) ⟨wr.heap.size, 0, none⟩ 1 1 [.int .i64 (k : Int)] rfl rfl (cell_one_new _ _ _) (by simp [Value.oneCell']) (by unfold maxLen; omega) (by omega) (by have := hB.size; simp at this ⊢; omega) ?_; intro v' w5 hown5 hgrow5 hnil5 hblk5)
      | (go_at_call 55; have hkn : k = n := (by omega); subst hkn; obtain ⟨p3, c3, rfl⟩ := own_slice hrow; with_reducible refine (hsort p3 c3 wr hrow hB).mono ?_; rintro e w6 ⟨rfl, hown6, hB6⟩))
    · have hs1 := hB.size
      simp at hs1
      refine ⟨⟨k + 1, by omega, rfl, by rw [upto_succ]; exact hown5, ?_⟩, by simp [intOf]; omega⟩
      refine (hB.alloc (by omega) _).grown hgrow5 (by simp; omega) (fun j hj => (hrow.lt j hj).1)
    · go_ret
      refine ⟨_, rfl, hown6, ?_⟩
      have e1 : Below w.heap.size w (w.alloc (.cells #[.pointer (some ⟨g, 0, none⟩)] 32)) := (Below.refl _ _).alloc (Nat.le_refl _) _
      exact (e1.trans (hB.mono (Nat.le_succ _))).trans (hB6.mono (Nat.le_succ _))

theorem ordF_length (l : List ByteArray) : (ordF l).length = l.length := by simp [ordF]
theorem ord_map (l : List ByteArray) : (ordF l).map encF = (ordL l).map (Value.int .i64) := by simp [ordL, encF]
theorem sort_calls {w : World} {base g : Nat} {S : Nat → Prop} {l : List ByteArray} (h : Tab w base g S l) (p : Option Addr) (c : Nat) (wr : World)
    (hrow : wr.ownsRow (w.heap.size + 1) 3 1 (.slice p l.length c) l.length (upto l.length)) (hB : Below (w.heap.size + 1) (w.alloc (.cells #[.pointer (some ⟨g, 0, none⟩)] 32)) wr) :
    Calls Try.prog 55 #[.slice p l.length c, .func (.func 56) #[] #[.pointer (some ⟨w.heap.size, 0, none⟩)]] wr fun e w' => e = .returned (.tuple #[]) ∧ w'.ownsRow (w.heap.size + 1) 3 1 (.slice p l.length c) l.length ((ordL l).map (Value.int .i64)) ∧ Below (w.heap.size + 1) wr w' := by
  have eg : ∀ args w, (callFunc 56 args).run Try.prog w = .ok (.enter 56 args) w := enters_of Try.func56 (by kernel_rfl) rfl
  rcases Nat.eq_zero_or_pos l.length with h0 | h0
  · obtain rfl := List.length_eq_zero_iff.mp h0
    exact (AnyF.slices_SortFunc_none (P := Try.prog) (ρ := Try.sort_int_ren) { Try.sort_int with } p c _ wr).mono fun e w' ⟨he, hw⟩ => by
      subst hw
      exact ⟨he, by rw [show ordL [] = [] from by simp [ordL, ordF]]; exact hrow, Below.refl _ _⟩
  · obtain ⟨rb, cur, rfl, hb, hg, hnc, hcm, hcs, ht⟩ : ∃ rb cur, p = some ⟨rb, 0, none⟩ ∧ w.heap.size + 1 ≤ rb ∧ wr.heap[rb]? = some (.cells cur 3 (0, 0)) ∧ l.length ≤ c ∧ c ≤ maxLen ∧ cur.size = c * 1 ∧ cur.toList.take (l.length * 1) = upto l.length := by
      rcases hrow.2 with ⟨_, h⟩ | ⟨rb, cap, cur, e, h1, h2, h3, h4, h5, h6⟩
      · omega
      · cases e
        exact ⟨rb, cur, rfl, h1, h2, h3, h4, h5, h6⟩
    have hlt := blk_lt hg
    haveI : Inhabited (Fin l.length) := ⟨⟨0, h0⟩⟩
    have hH : Go.Sort.Holds encF wr rb 0 (List.finRange l.length).toArray := by
      intro j hj
      have hj' : j < l.length := by simpa using hj
      rw [Nat.zero_add]
      refine ⟨row_cell hrow j _ ?_, blk_frozen hg j⟩
      rw [upto_fin, List.getElem?_map, List.getElem?_eq_getElem (by simpa using hj), getElem!_pos _ j hj]
      simp
    have hc : ∀ m os (dk : Array (Fin l.length)) (x y : Fin l.length), Calls Try.prog 56 (#[encF x, encF y] ++ #[.pointer (some ⟨w.heap.size, 0, none⟩)]) (sortWorld encF wr rb 0 m dk os) fun e w' => e = .returned (.int .i64 (cfF l x y)) ∧ ∃ q os', w' = grow ((sortWorld encF wr rb 0 m dk os).drewN q) os' := by
      intro m os dk x y
      obtain ⟨mv, sv, h1, h2, h3, h4, h5, h6, h7, h8⟩ := h
      obtain ⟨p5, c5, rfl⟩ := own_slice h5
      have hgl := blk_lt h1
      have old : ∀ k o, w.heap[k]? = some o → (sortWorld encF wr rb 0 m dk os).heap[k]? = some o := fun k o hk =>
        sort_blk ((hB.block k (by have := blk_lt hk; omega)).trans (blk_alloc hk _)) (by have := blk_lt hk; omega)
      have hbx : (sortWorld encF wr rb 0 m dk os).heap[w.heap.size]? = some (.cells #[.pointer (some ⟨g, 0, none⟩)] 32 (0, 0)) :=
        sort_blk ((hB.block _ (Nat.lt_succ_self _)).trans (by simpa using blk_new w (.cells #[.pointer (some ⟨g, 0, none⟩)] 32))) (by omega)
      rcases h5.2 with ⟨_, h⟩ | ⟨b5, cap, cur5, e, h11, h12, _⟩
      · omega
      · cases e
        have hrow5 : (sortWorld encF wr rb 0 m dk os).ownsRow base 9 1 (.slice (some ⟨b5, 0, none⟩) l.length c5) l.length (l.map Value.string) := by
          refine ⟨h5.1, .inr ?_⟩
          rcases h5.2 with ⟨_, h⟩ | ⟨b6, cap6, cur6, e, h11, h12, h13⟩
          · omega
          · cases e
            exact ⟨_, _, _, rfl, h11, old _ _ h12, h13⟩
        exact (clo_calls (cell_far hbx 0 _ rfl) (cell_far (old _ _ h1) 1 _ rfl) x.val y.val x.isLt y.isLt (l[x]) (l[y]) (row_cell hrow5 _ _ (by simp)) (row_cell hrow5 _ _ (by simp))).mono fun e w' ⟨he, q, hq⟩ => ⟨he, q, #[], by rw [hq, grow_empty]⟩
    have hd : l.Nodup := by obtain ⟨mv, sv, h1, h2, h3, h4, h5, h6, h7, h8⟩ := h; exact h8
    have hl : l.length ≤ 4096 := by obtain ⟨mv, sv, h1, h2, h3, h4, h5, h6, h7, h8⟩ := h; exact h7
    have hcon := Any.slices_SortFunc_total Try.sort_int encF (fun _ => rfl) (cfF l) (swoF l) 56 #[.pointer (some ⟨w.heap.size, 0, none⟩)] rb 0 c (List.finRange l.length).toArray wr eg
      (fun m os dk _ x y => hc m os dk x y) hH hlt (by simp; omega) (apartF hd)
    change Calls Try.prog 55 _ _ _ at hcon
    simp only [List.size_toArray, List.length_finRange] at hcon
    refine hcon.mono ?_
    rintro e w' ⟨rfl, n, os, rfl⟩
    have hr := sort_own (enc := encF) (base := w.heap.size + 1) (m := n) (os := os) (d := ordF l) hb hg (by rw [ordF_length]; exact hnc) hcm (by omega)
    rw [ordF_length, ord_map] at hr
    refine ⟨rfl, hr, ?_⟩
    refine ⟨rfl, rfl, rfl, by simp [sortWorld], fun k hk => ?_⟩
    unfold sortWorld
    rw [heap_grow_old _ _ (by simp; omega)]
    simp only [putRow, mapBlock, heap_ahead, Array.getElem?_modify]
    rw [if_neg (by omega)]

theorem order {w : World} {base g : Nat} {S : Nat → Prop} {l : List ByteArray} (h : Tab w base g S l) :
    Calls Try.prog 23 #[.pointer (some ⟨g, 0, none⟩)] w fun e w' => ∃ v, e = .returned v ∧ w'.ownsRow (w.heap.size + 1) 3 1 v l.length ((ordL l).map (Value.int .i64)) ∧ Below w.heap.size w w' :=
  order_calls h fun p c wr hrow hB => sort_calls h p c wr hrow hB
#print axioms order
end Go.Proofs.Ytcebjhbphcoboaa.Tbl
