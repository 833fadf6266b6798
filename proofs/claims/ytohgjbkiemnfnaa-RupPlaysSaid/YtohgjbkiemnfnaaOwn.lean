/- Rows of the call's own, and the shelf's words for them: what is sorted, what is cut behind runs of equals. No program in sight. -/
import Derived.Test.YtohgjbkiemnfnaaWa
import Derived.Test.YtohgjbkiemnfnaaWb
import Derived.Shelf.SlSortCmp.NoneTotal
import Derived.Shelf.SlicesE.Compact
namespace Go.Proofs.Ytohgjbkiemnfnaa.Own
open Go Go.RowKit Go.Proofs.YtohgjbkiemnfnaaW.PrintWords Go.Sort Go.Lib
section
variable {α : Type} {enc : α → Value} {h1 : ∀ x, (enc x).oneCell' = true} {e base : Nat} {ok : Nat → Prop} {v : Value} {xs ys : List α} {w w1 : World}

/-- What a row of one's own that is not empty is made of. -/
theorem open_row (h : (Kd.scalar enc h1).R e w base ok v xs) (hne : 0 < xs.length) :
    ∃ g cap cur, v = .slice (some ⟨g, 0, none⟩) xs.length cap ∧ xs.length ≤ cap ∧ cap ≤ maxLen ∧ base ≤ g ∧ ok g ∧ w.heap[g]? = some (.cells cur e (0, 0)) ∧ cur.size = cap ∧ cur.toList.take xs.length = xs.map enc := by
  obtain ⟨h0, inner, ⟨hl, ho⟩, hr⟩ := h
  obtain rfl := Kd.reps_encs hr
  rcases ho with ⟨_, hn⟩ | ⟨g, cap, cur, rfl, hb, hg, hnc, hcm, hsz, ht⟩
  · omega
  · exact ⟨g, cap, cur, rfl, hnc, hcm, hb, h0 g rfl, hg, by rw [hsz]; exact Nat.mul_one _, by rw [← Nat.mul_one xs.length]; exact ht⟩
theorem empty_row (h : (Kd.scalar enc h1).R e w base ok v []) : ∃ p cap, v = .slice p 0 cap := by
  obtain ⟨_, inner, ⟨_, ho⟩, _⟩ := h
  rcases ho with ⟨rfl, _⟩ | ⟨g, cap, cur, rfl, _⟩
  · exact ⟨_, _, rfl⟩
  · exact ⟨_, _, rfl⟩
/-- A row without elements, and what its room holds. -/
theorem empty_cells (h : (Kd.scalar enc h1).R e w base ok v []) : ∃ (p : Option Addr) (cap : Nat) (cs : List Value), v = .slice p 0 cap ∧ cap ≤ maxLen ∧ (p = none → cap = 0) ∧ cs.length = cap ∧ ∀ a, p = some a → ∀ (j : Nat) u, cs[j]? = some u → w.cell? (a.add j) = some u := by
  obtain ⟨_, inner, ⟨_, ho⟩, _⟩ := h
  rcases ho with ⟨rfl, _⟩ | ⟨g, cap, cur, rfl, _, hg, _, hcm, hsz, _⟩
  · exact ⟨none, 0, [], rfl, Nat.zero_le _, fun _ => rfl, rfl, (fun a h => by cases h)⟩
  · refine ⟨_, cap, cur.toList, rfl, hcm, (fun h => by cases h), by rw [Array.length_toList, hsz]; exact Nat.mul_one _, fun a ha j u hu => ?_⟩
    obtain rfl := Option.some.inj ha
    rw [show (⟨g, 0, none⟩ : Addr).add j = ⟨g, 0 + j, none⟩ from by unfold Addr.add; split <;> simp_all]
    rw [Array.getElem?_toList] at hu
    simp [World.cell?, hg, hu]
theorem shut_row {g cap : Nat} {cur : Array Value} (hk : ok g) (hb : base ≤ g) (hg : w.heap[g]? = some (.cells cur e (0, 0))) (hn : xs.length ≤ cap) (hc : cap ≤ maxLen) (hs : cur.size = cap) (ht : cur.toList.take xs.length = xs.map enc) :
    (Kd.scalar enc h1).R e w base ok (.slice (some ⟨g, 0, none⟩) xs.length cap) xs := by
  refine ⟨fun k hk' => ?_, encs enc xs, ⟨by show (encs enc xs).length = xs.length * 1; simp [encs], .inr ⟨g, cap, cur, rfl, hb, hg, hn, hc, by rw [hs]; exact (Nat.mul_one _).symm, by show cur.toList.take (xs.length * 1) = _; rw [Nat.mul_one]; exact ht⟩⟩, Kd.reps_scalar xs⟩
  have : g = k := by simpa [Value.ownBlock] using hk'
  rwa [← this]
/-- A row that was just laid. -/
theorem new_row (xs : List α) (t : Nat) (W : World) (hl : xs.length ≤ 9223372036854775807) : (Kd.scalar enc h1).C (W.alloc (.cells (xs.map enc).toArray t)) (some ⟨W.heap.size, 0, none⟩) xs.length xs := by
  refine ⟨rfl, hl, fun _ => ⟨_, rfl, fun j p hj => ⟨[enc p], rfl, rfl, fun i u hu => ?_⟩⟩⟩
  cases i with
  | succ i => simp at hu
  | zero =>
    obtain rfl : enc p = u := by simpa using hu
    have hn := heap_alloc_new W (.cells (xs.map enc).toArray t)
    show (W.alloc (.cells (xs.map enc).toArray t)).cell? ((⟨W.heap.size, 0, none⟩ : Addr).add (j * 1 + 0)) = _
    rw [show j * 1 + 0 = j by omega, show (⟨W.heap.size, 0, none⟩ : Addr).add j = ⟨W.heap.size, 0 + j, none⟩ from by unfold Addr.add; split <;> simp_all]
    simp only [World.cell?, hn]
    simp [hj]
theorem cur_get {cur : Array Value} (ht : cur.toList.take xs.length = xs.map enc) (j : Nat) (hj : j < xs.length) : cur[j]? = some (enc xs[j]) := by
  have := congrArg (fun l : List Value => l[j]?) ht
  simp only [List.getElem?_take, if_pos hj, List.getElem?_map, List.getElem?_eq_getElem hj, Option.map_some] at this
  rw [← Array.getElem?_toList]; exact this
theorem holds_row [Inhabited α] {g : Nat} {cur : Array Value} (hg : w.heap[g]? = some (.cells cur e (0, 0))) (ht : cur.toList.take xs.length = xs.map enc) : Holds enc w g 0 xs.toArray := by
  intro j hj
  have hj' : j < xs.length := by simpa using hj
  have hc := cur_get ht j hj'
  refine ⟨?_, ?_⟩
  · simp only [World.cell?, hg, Nat.zero_add]
    rw [hc, getElem!_pos xs.toArray j hj]; rfl
  · simp [World.frozen?, hg]
theorem put_take [Inhabited α] {cur : Array Value} {d : List α} (hn : d.length ≤ cur.size) (m : Nat) (hm : m ≤ d.length) : (putCells enc 0 d.toArray cur).toList.take m = (d.take m).map enc := by
  apply List.ext_getElem?
  intro j
  by_cases hj : j < m
  · have h2 : j < d.length := by omega
    have h3 : j < cur.size := by omega
    rw [List.getElem?_take, if_pos hj, Array.getElem?_toList, putCells, Array.getElem?_mapIdx, Array.getElem?_eq_getElem h3, Option.map_some, if_pos ⟨Nat.zero_le _, by simpa using h2⟩, List.getElem?_map, List.getElem?_take, if_pos hj, List.getElem?_eq_getElem h2, Option.map_some, Nat.sub_zero, getElem!_pos d.toArray j (by simpa using h2)]
    rfl
  · rw [List.getElem?_eq_none (by simp; omega), List.getElem?_eq_none (by simp; omega)]
/-- The row is written anew, as long as it was or shorter; blocks are laid behind. -/
theorem put_row [Inhabited α] {g cap : Nat} {cur : Array Value} {d : List α} (hk : ok g) (hb : base ≤ g) (hg : w.heap[g]? = some (.cells cur e (0, 0))) (hn : d.length ≤ cap) (hc : cap ≤ maxLen) (hs : cur.size = cap) (m q : Nat) (hm : m ≤ d.length) (os : Array Obj) :
    (Kd.scalar enc h1).R e (sortWorld enc w g 0 q d.toArray os) base ok (.slice (some ⟨g, 0, none⟩) m cap) (d.take m) := by
  have hlt : g < w.heap.size := by
    rcases Nat.lt_or_ge g w.heap.size with h | h
    · exact h
    · rw [Array.getElem?_eq_none h] at hg; cases hg
  have hl : (d.take m).length = m := by rw [List.length_take]; omega
  have h2 : (sortWorld enc w g 0 q d.toArray os).heap[g]? = some (.cells (putCells enc 0 d.toArray cur) e (0, 0)) := by
    unfold sortWorld
    rw [heap_grow_old _ _ (by simpa using hlt)]
    simp only [putRow, mapBlock, heap_ahead, Array.getElem?_modify, if_pos]
    rw [hg]; rfl
  have := shut_row (h1 := h1) (xs := d.take m) (cap := cap) hk hb h2 (by omega) hc (by simpa [putCells] using hs) (by rw [hl]; exact put_take (by omega) m hm)
  rwa [hl] at this
theorem sort_below [Inhabited α] {g q : Nat} {d : Array α} {os : Array Obj} {B : Nat} {w0 : World} (h : Below B w0 w) (hB : B ≤ g) (hw : B ≤ w.heap.size) : Below B w0 (sortWorld enc w g 0 q d os) := by
  refine h.trans ⟨rfl, rfl, rfl, by simp [sortWorld], fun k hk => ?_⟩
  unfold sortWorld
  rw [heap_grow_old _ _ (by simp; omega)]
  simp only [putRow, mapBlock, heap_ahead, Array.getElem?_modify]
  rw [if_neg (by omega)]
theorem sort_kept [Inhabited α] {g q : Nat} {d : Array α} {os : Array Obj} {S : Nat → Prop} (hg : S g) : Kept w (sortWorld enc w g 0 q d os) S := by
  refine ⟨by simp [sortWorld], fun k hk hn => ?_⟩
  unfold sortWorld
  rw [heap_grow_old _ _ (by simpa using hk)]
  simp only [putRow, mapBlock, heap_ahead, Array.getElem?_modify]
  rw [if_neg]
  rintro rfl
  exact hn hg
end
end Go.Proofs.Ytohgjbkiemnfnaa.Own
