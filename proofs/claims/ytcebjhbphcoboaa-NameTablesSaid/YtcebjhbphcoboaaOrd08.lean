/- The document's Find and Order over names (ferruleref08), in plain words: the number of a name; the numbers as the names stand. -/
import Derived.Test.YtcebjhbphcoboaaTbo
import Derived.Test.YtcebjhbphcoboaaAid
import Derived.Test.YtcebjhbphcoboaaXn20
import Derived.Test.YtcebjhbphcoboaaXn24
namespace Go.Proofs.Ytcebjhbphcoboaa.Tbl
open Go Go.RowKit Go.Maps Go.Sort Go.Proofs.Ytcebjhbphcoboaa.X Go.Proofs.YtcebjhbphcoboaaW.PrintWords Go.Proofs.YtcebjhbphcoboaaW.PrintLast Go.Proofs.YtcebjhbphcoboaaW.PrintMore Go.Proofs.Ytcebjhbphcoboaa.Aid
set_option linter.unusedVariables false

theorem rdOf_at {l : List ByteArray} {i : Nat} (h : i < l.length) : rdOf ByteArray.empty l (i : Int) = l[i] := by
  unfold rdOf
  simp [List.getD, h]
theorem toList_inj {a b : ByteArray} : a.toList = b.toList ↔ a = b := by
  rw [toList_data, toList_data]
  exact ⟨fun h => key_inj (by unfold key; rw [h]), fun h => by rw [h]⟩

/-- What the document's Find hands back. -/
def findP (l : List ByteArray) (s : ByteArray) : Int := if mem l s then num l s else -1
theorem find_l0 (l : List ByteArray) (s : ByteArray) (hl : l.length ≤ 1000000) : ∀ d i : Nat, l.length - i = d → i ≤ l.length → (∀ x ∈ l.take i, ¬ x = s) → Ev (fun k => ferruleref08_Find.l0 k l s (i : Int)) (findP l s) := by
  intro d
  induction d with
  | zero =>
    intro i hd hi hno
    refine Ev.step (fun k => by rw [ferruleref08_Find.l0]) (ev_neg (by omega) ?_)
    have hm : mem l s = false := by
      rw [List.take_of_length_le (by omega)] at hno
      simpa [mem] using hno
    unfold findP
    rw [hm]
    exact Ev.now _
  | succ d ih =>
    intro i hd hi hno
    have hlt : i < l.length := by omega
    refine Ev.step (fun k => by rw [ferruleref08_Find.l0]) (ev_pos (by omega) (ev_pos (by omega) ?_))
    rw [rdOf_at hlt]
    by_cases hs : l[i] = s
    · refine ev_pos (toList_inj.mpr hs) (ev_now ?_)
      have hm : mem l s = true := mem_iff.mpr (hs ▸ List.getElem_mem hlt)
      unfold findP num
      rw [hm, if_pos rfl, if_pos rfl]
      have h2 : l.findIdx (fun x => decide (x = s)) = i := by
        rw [List.findIdx_eq hlt]
        refine ⟨by simpa using hs, fun j hj => ?_⟩
        have := hno l[j] (List.mem_take_iff_getElem.mpr ⟨j, by omega, rfl⟩)
        simpa using this
      rw [h2]
    · refine ev_neg (fun h => hs (toList_inj.mp h)) ?_
      rw [wrap64_in (by omega) (by omega), show (i : Int) + 1 = ((i + 1 : Nat) : Int) by omega]
      refine ih (i + 1) (by omega) (by omega) fun x hx => ?_
      rw [List.take_succ_eq_append_getElem hlt, List.mem_append] at hx
      rcases hx with hx | hx
      · exact hno x hx
      · simp at hx; rw [hx]; exact hs
theorem find_ev (l : List ByteArray) (s : ByteArray) (hl : l.length ≤ 1000000) : ∃ k, ferruleref08_Find.f k l s = some (findP l s) :=
  (find_l0 l s hl _ 0 rfl (Nat.zero_le _) (by simp)).rounds

/-- Does the name of a number stand ahead of another number's? -/
def ltI (l : List ByteArray) (a b : Int) : Bool := ltStr (rdOf ByteArray.empty l a).data.toList (rdOf ByteArray.empty l b).data.toList
theorem less_ltI (l : List ByteArray) (a b : Int) : Op.bytesLess (rdOf ByteArray.empty l a).toList (rdOf ByteArray.empty l b).toList = ltI l a b := by
  rw [toList_data, toList_data, bytesLess_eq]; rfl
/-- One more number, put in its place. -/
def ins (l : List ByteArray) (out : List Int) (x : Int) : List Int := out.takeWhile (fun i => ltI l i x) ++ x :: out.dropWhile (fun i => ltI l i x)
def insAll (l : List ByteArray) : Nat → List Int
  | 0 => []
  | n + 1 => ins l (insAll l n) n
theorem ins_perm (l : List ByteArray) (out : List Int) (x : Int) : (ins l out x).Perm (x :: out) := by
  unfold ins
  refine List.perm_middle.trans ?_
  rw [List.takeWhile_append_dropWhile]
theorem insAll_perm (l : List ByteArray) : ∀ n, (insAll l n).Perm ((List.range n).map fun (i : Nat) => (i : Int))
  | 0 => .nil
  | n + 1 => by
    refine (ins_perm l _ _).trans ?_
    rw [List.range_succ, List.map_append]
    exact ((insAll_perm l n).cons _).trans (List.perm_append_singleton _ _).symm
theorem insAll_length (l : List ByteArray) (n : Nat) : (insAll l n).length = n := by
  have := (insAll_perm l n).length_eq
  simpa using this
theorem insAll_mem {l : List ByteArray} {n : Nat} {x : Int} (h : x ∈ insAll l n) : 0 ≤ x ∧ x < n := by
  have := (insAll_perm l n).mem_iff.mp h
  simp only [List.mem_map, List.mem_range] at this
  obtain ⟨i, hi, rfl⟩ := this
  omega
theorem ltI_trans {l : List ByteArray} {a b c : Int} (h1 : ltI l a b = true) (h2 : ltI l b c = true) : ltI l a c = true := swo_ltStr.trans _ _ _ h1 h2
/-- Two numbers of a table stand in an order. -/
theorem ltI_total {l : List ByteArray} (hd : l.Nodup) {a b : Int} (ha : 0 ≤ a ∧ a < l.length) (hb : 0 ≤ b ∧ b < l.length) (hne : a ≠ b) (h : ltI l a b = false) : ltI l b a = true := by
  obtain ⟨i, rfl⟩ := Int.eq_ofNat_of_zero_le ha.1
  obtain ⟨j, rfl⟩ := Int.eq_ofNat_of_zero_le hb.1
  have hi : i < l.length := by omega
  have hj : j < l.length := by omega
  by_cases h2 : ltI l (j : Int) (i : Int) = true
  · exact h2
  · exfalso
    unfold ltI at h h2
    rw [rdOf_at hi, rdOf_at hj] at h h2
    simp only [ltStr, decide_eq_false_iff_not, decide_eq_true_eq, List.not_lt] at h h2
    have h3 := List.le_antisymm h2 h
    exact hne (by rw [(List.getElem_inj hd).mp (key_inj (by unfold key; rw [h3]) : l[i] = l[j])])
theorem ins_sorted {l : List ByteArray} (hd : l.Nodup) {out : List Int} {x : Int} (hx : 0 ≤ x ∧ x < l.length) (ho : ∀ y ∈ out, (0 ≤ y ∧ y < l.length) ∧ y ≠ x) (hs : out.Pairwise fun a b => ltI l a b = true) : (ins l out x).Pairwise fun a b => ltI l a b = true := by
  induction out with
  | nil => simp [ins]
  | cons y r ih =>
    rw [List.pairwise_cons] at hs
    have hy := ho y (by simp)
    unfold ins
    by_cases h : ltI l y x = true
    · rw [List.takeWhile_cons_of_pos (p := fun i => ltI l i x) h, List.dropWhile_cons_of_pos (p := fun i => ltI l i x) h, List.cons_append, List.pairwise_cons]
      have hr := ih (fun z hz => ho z (by simp [hz])) hs.2
      refine ⟨fun z hz => ?_, hr⟩
      rcases List.mem_cons.mp ((ins_perm l r x).mem_iff.mp hz) with rfl | hz
      · exact h
      · exact hs.1 z hz
    · rw [List.takeWhile_cons_of_neg (p := fun i => ltI l i x) h, List.dropWhile_cons_of_neg (p := fun i => ltI l i x) h, List.nil_append, List.pairwise_cons]
      have h2 : ltI l x y = true := ltI_total hd hy.1 hx hy.2 (by simpa using h)
      refine ⟨fun z hz => ?_, List.pairwise_cons.mpr hs⟩
      rcases List.mem_cons.mp hz with rfl | hz
      · exact h2
      · exact ltI_trans h2 (hs.1 z hz)
theorem insAll_sorted {l : List ByteArray} (hd : l.Nodup) : ∀ n, n ≤ l.length → (insAll l n).Pairwise fun a b => ltI l a b = true
  | 0, _ => .nil
  | n + 1, h => ins_sorted hd (by omega) (fun y hy => by have := insAll_mem hy; omega) (insAll_sorted hd n (by omega))
theorem ordL_eq {l : List ByteArray} (hd : l.Nodup) : insAll l l.length = ordL l := by
  have hp : (ordL l).Perm ((List.range l.length).map fun (i : Nat) => (i : Int)) := by
    have h1 := (List.mergeSort_perm (List.finRange l.length) fun x y => !(ltOf (cfF l) y x)).map fun i => (i.val : Int)
    refine h1.trans (List.Perm.of_eq ?_)
    apply List.ext_getElem
    · simp
    · intro i h1 h2; simp
  have hso : (ordL l).Pairwise fun a b => ltI l b a = false := by
    unfold ordL ordF
    rw [List.pairwise_map]
    refine (List.pairwise_mergeSort (le := fun x y => !(ltOf (cfF l) y x)) (fun a b c h1 h2 => ?_) (fun a b => ?_) _).imp fun {a b} h => ?_
    · simp only [Bool.not_eq_true'] at *
      exact (swoF l).ntrans _ _ _ h2 h1
    · cases h : ltOf (cfF l) b a
      · rfl
      · have : ltOf (cfF l) a b = false := SWO.asymmA (swoF l) h
        simp [this]
    · simp only [Bool.not_eq_true'] at h
      rw [lt_cfF] at h
      unfold ltI
      rw [rdOf_at b.isLt, rdOf_at a.isLt]
      exact h
  refine List.Perm.eq_of_pairwise (le := fun a b => ltI l b a = false) (fun a b ha hb h1 h2 => ?_) ((insAll_sorted hd _ (Nat.le_refl _)).imp fun {a b} h => swo_ltStr.asymmA h) hso ((insAll_perm l _).trans hp.symm)
  by_cases hne : a = b
  · exact hne
  · have ha := insAll_mem ha
    have hb2 : 0 ≤ b ∧ b < l.length := by
      have := hp.mem_iff.mp hb
      simp only [List.mem_map, List.mem_range] at this
      obtain ⟨i, hi, rfl⟩ := this
      omega
    have := ltI_total hd ha hb2 hne h2
    rw [h1] at this; cases this

theorem while_at {p : Int → Bool} : ∀ (out : List Int) (n : Nat), (∀ x ∈ out.take n, p x = true) → n ≤ out.length → (∀ h : n < out.length, p out[n] = false) → out.takeWhile p = out.take n ∧ out.dropWhile p = out.drop n
  | [], n, _, _, _ => by simp
  | y :: r, 0, _, _, h => by
    have := h (by simp)
    simp at this
    simp [this]
  | y :: r, n + 1, h1, h2, h3 => by
    have hy : p y = true := h1 y (by simp)
    have := while_at r n (fun x hx => h1 x (by simp [hx])) (by simpa using h2) (fun h => by have := h3 (by simpa using h); simpa using this)
    simp [hy, this.1, this.2]
theorem order_l1 (l : List ByteArray) (out : List Int) (n : Nat) (R : List Int) (hl : l.length ≤ 1000000) (hn : n < l.length) (hol : out.length = n) (hm : ∀ x ∈ out, 0 ≤ x ∧ x < (l.length : Int))
    (hK : Ev (fun k => ferruleref08_Order.l0 k l (ins l out n) ((n + 1 : Nat) : Int)) R) :
    ∀ d i : Nat, out.length - i = d → i ≤ out.length → (∀ x ∈ out.take i, ltI l x n = true) → Ev (fun k => ferruleref08_Order.l1 k l out (n : Int) (i : Int)) R := by
  intro d
  have fin : ∀ i : Nat, i ≤ out.length → (∀ x ∈ out.take i, ltI l x n = true) → (∀ h : i < out.length, ltI l out[i] n = false) → Ev (fun k => ferruleref08_Order.l0 k l ((([] ++ out.take ((i : Int)).toNat) ++ [(n : Int)]) ++ out.drop ((i : Int)).toNat) (wrap64 ((n : Int) + 1))) R := by
    intro i hi h1 h2
    rw [wrap64_in (by omega) (by omega), show (n : Int) + 1 = ((n + 1 : Nat) : Int) by omega, Int.toNat_natCast]
    obtain ⟨e1, e2⟩ := while_at (p := fun x => ltI l x n) out i h1 hi h2
    unfold ins at hK
    rw [e1, e2] at hK
    rw [List.nil_append, List.append_assoc, List.singleton_append]
    exact hK
  have lens : ∀ i : Nat, i ≤ out.length → (([] : List Int).length + (out.take ((i : Int)).toNat).length < 17592186044416) ∧ (([] ++ out.take ((i : Int)).toNat).length + ([(n : Int)]).length < 17592186044416) ∧ ((([] ++ out.take ((i : Int)).toNat) ++ [(n : Int)]).length + (out.drop ((i : Int)).toNat).length < 17592186044416) := by
    intro i hi
    simp only [List.length_nil, List.length_append, List.length_take, List.length_drop, List.length_singleton, Int.toNat_natCast]
    omega
  induction d with
  | zero =>
    intro i hd hi h1
    obtain ⟨g1, g2, g3⟩ := lens i hi
    refine Ev.step (fun k => by rw [ferruleref08_Order.l1]) (ev_neg (by omega) ?_)
    refine ev_bind (Ev.now _) (ev_pos (by omega) (ev_pos (by omega) (ev_bind (Ev.now _) (ev_pos g1 (ev_bind (Ev.now _) (ev_bind (Ev.now _) (ev_pos g2 (ev_bind (Ev.now _) (ev_bind (Ev.now _) (ev_pos g3 ?_))))))))))
    exact fin i hi h1 (fun h => by omega)
  | succ d ih =>
    intro i hd hi h1
    have hlt : i < out.length := by omega
    have ho := hm _ (List.getElem_mem hlt)
    have hrd : rd out (i : Int) = out[i] := by rw [rd_of (by omega) (by omega)]; rfl
    obtain ⟨g1, g2, g3⟩ := lens i hi
    refine Ev.step (fun k => by rw [ferruleref08_Order.l1]) (ev_pos (by omega) (ev_pos (by omega) ?_))
    rw [hrd, less_ltI]
    refine ev_pos ho.1 (ev_pos ho.2 (ev_pos (by omega) (ev_pos (by omega) ?_)))
    by_cases h : ltI l out[i] n = true
    · refine ev_pos h ?_
      rw [wrap64_in (by omega) (by omega), show (i : Int) + 1 = ((i + 1 : Nat) : Int) by omega]
      refine ih (i + 1) (by omega) (by omega) fun x hx => ?_
      rw [List.take_succ_eq_append_getElem hlt, List.mem_append] at hx
      rcases hx with hx | hx
      · exact h1 x hx
      · simp at hx; rw [hx]; exact h
    · refine ev_neg h ?_
      refine ev_bind (Ev.now _) (ev_pos (by omega) (ev_bind (Ev.now _) (ev_pos g1 (ev_bind (Ev.now _) (ev_bind (Ev.now _) (ev_pos g2 (ev_bind (Ev.now _) (ev_bind (Ev.now _) (ev_pos g3 ?_)))))))))
      exact fin i hi h1 (fun _ => by simpa using h)
theorem order_l0 (l : List ByteArray) (hl : l.length ≤ 1000000) : ∀ d n : Nat, l.length - n = d → n ≤ l.length → Ev (fun k => ferruleref08_Order.l0 k l (insAll l n) (n : Int)) (insAll l l.length) := by
  intro d
  induction d with
  | zero =>
    intro n hd hn
    refine Ev.step (fun k => by rw [ferruleref08_Order.l0]) (ev_neg (by omega) (ev_now ?_))
    rw [show n = l.length by omega]
  | succ d ih =>
    intro n hd hn
    refine Ev.step (fun k => by rw [ferruleref08_Order.l0]) (ev_pos (by omega) ?_)
    exact order_l1 l _ n _ hl (by omega) (insAll_length l n) (fun x hx => by have := insAll_mem hx; omega) (ih (n + 1) (by omega) (by omega)) _ 0 rfl (Nat.zero_le _) (by simp)
theorem order_ev {l : List ByteArray} (hl : l.length ≤ 1000000) (hd : l.Nodup) : ∃ k, ferruleref08_Order.f k l = some (ordL l) := by
  rw [← ordL_eq hd]
  exact (order_l0 l hl _ 0 rfl (Nat.zero_le _)).rounds
end Go.Proofs.Ytcebjhbphcoboaa.Tbl
