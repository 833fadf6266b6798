/- The row of identifiers at a place of bytes: the program's function and the document's come to one plain function. -/
import Derived.Test.YtildmfegfkiknaaDoorIdent02
import Derived.Test.YtildmfegfkiknaaDoorXn15
import Derived.Test.YtildmfegfkiknaaDoorXn16
import Derived.Test.YtildmfegfkiknaaDoorXn17
import Derived.Test.YtildmfegfkiknaaDoorXn50
namespace Go.Proofs.YtildmfegfkiknaaDoor.Row02
open Go.RowKit Go.Proofs.YtildmfegfkiknaaDoorW.PrintWords Go.Proofs.YtildmfegfkiknaaDoorW.PrintMore Go.Proofs.YtildmfegfkiknaaDoor.Aid Go.Proofs.YtildmfegfkiknaaDoor.Digits Go.Proofs.YtildmfegfkiknaaDoor.X Go.Proofs.YtildmfegfkiknaaDoor.Is01 Go.Proofs.YtildmfegfkiknaaDoor.Ident02

/-- May a byte stand in an identifier? -/
def isB (c : Int) : Bool := (decide (48 ≤ c) && decide (c ≤ 57)) || (decide (65 ≤ c) && decide (c ≤ 90)) || (decide (97 ≤ c) && decide (c ≤ 122)) || decide (c = 45)
theorem of_256 (p : Int → Prop) (h : ∀ n : Fin 256, p (n.val : Int)) (c : Int) (hc : 0 ≤ c ∧ c < 256) : p c := by
  have := h ⟨c.toNat, by omega⟩
  rw [show (((⟨c.toNat, by omega⟩ : Fin 256).val : Nat) : Int) = c by simp; omega] at this
  exact this
set_option maxRecDepth 100000 in
theorem isByte_eq (c : Int) (hc : 0 ≤ c ∧ c < 256) : ident_isByte.f c = some (isB c) := of_256 (fun c => ident_isByte.f c = some (isB c)) (by decide +kernel) c hc
set_option maxRecDepth 100000 in
theorem byte_eq (c : Int) (hc : 0 ≤ c ∧ c < 256) : ferruleref02_Byte.f c = some (isB c) := of_256 (fun c => ferruleref02_Byte.f c = some (isB c)) (by decide +kernel) c hc

theorem numB_all (s : ByteArray) : numB s.data.toList = ((bytesOf s).all isd && !(s.data.toList.isEmpty)) := by
  unfold numB bytesOf
  rw [List.all_map]
  congr 1
  congr 1
  funext c
  exact digits_iff c
theorem refNum_ev (s : ByteArray) (hs : s.size ≤ 140737488351232) : Ev (fun k => ferruleref02_Numeric.f k s) (numB s.data.toList) := by
  have hl := bs_length s
  unfold ferruleref02_Numeric.f
  suffices h : ∀ d (n : Nat), s.size - n = d → n ≤ s.size → (∀ i (hi : i < (bytesOf s).length), i < n → isd (bytesOf s)[i] = true) →
      Ev (fun k => ferruleref02_Numeric.l0 k s (n : Int)) (numB s.data.toList) from h _ 0 rfl (by omega) fun i hi h => by omega
  intro d
  induction d with
  | zero =>
    intro n hd hn hall
    have ha : (bytesOf s).all isd = true := all_of fun i hi => hall i hi (by omega)
    refine Ev.step (fun k => by rw [ferruleref02_Numeric.l0]) (ev_neg (by omega) (ev_now ?_))
    rw [numB_all, ha, toList_data, Bool.true_and]
    cases s.data.toList <;> rfl
  | succ d ih =>
    intro n hd hn hall
    have hlt : n < (bytesOf s).length := by omega
    have hno : isd (bytesOf s)[n] = false → numB s.data.toList = false := fun h => by rw [numB_all, all_false hlt h, Bool.false_and]
    refine Ev.step (fun k => by rw [ferruleref02_Numeric.l0]) (ev_pos (by omega) (ev_pos (by omega) ?_))
    rw [bt_get s n hlt]
    by_cases h1 : (bytesOf s)[n] < 48
    · refine ev_pos h1 (ev_now (hno ?_).symm)
      rw [Bool.eq_false_iff, ne_eq, isd_iff]; omega
    · refine ev_neg h1 ?_
      by_cases h2 : (bytesOf s)[n] > 57
      · refine ev_pos h2 (ev_now (hno ?_).symm)
        rw [Bool.eq_false_iff, ne_eq, isd_iff]; omega
      · refine ev_neg h2 ?_
        rw [wrap64_in (by omega) (by omega), show (n : Int) + 1 = ((n + 1 : Nat) : Int) by omega]
        refine ih (n + 1) (by omega) (by omega) fun i hi hlt2 => ?_
        by_cases e : i = n
        · subst e; rw [isd_iff]; omega
        · exact hall i hi (by omega)

/-- What is wrong with the i-th identifier of a row. -/
def chk (s : ByteArray) (i : Nat) (pre : Bool) : Int := if s.data.toList = [] then 5 else if 255 < s.size ∨ 16 ≤ i then 4 else if pre = true then (if numB s.data.toList = true then (if isNum (bytesOf s) = true then 0 else 3) else 0) else 0
theorem check_ev (s : ByteArray) (hs : s.size ≤ 140737488351232) (i : Nat) (pre : Bool) : Ev (fun k => ident_check.f k s (i : Int) pre) (chk s i pre) := by
  unfold ident_check.f chk
  rw [toList_data]
  by_cases h0 : s.data.toList = []
  · exact ev_pos h0 (ev_now (by rw [if_pos h0]))
  · refine ev_neg h0 ?_
    rw [if_neg h0]
    have hj : ∀ c, c = decide (255 < s.size ∨ 16 ≤ i) → Ev (fun k => ident_check.j0 k s pre c) (if 255 < s.size ∨ 16 ≤ i then 4 else if pre = true then (if numB s.data.toList = true then (if isNum (bytesOf s) = true then 0 else 3) else 0) else 0) := by
      intro c hc
      refine Ev.step (fun k => by rw [ident_check.j0]) ?_
      cases c with
      | true => exact ev_pos rfl (ev_now (by rw [if_pos (of_decide_eq_true hc.symm)]))
      | false =>
        refine ev_neg (by simp) ?_
        rw [if_neg (of_decide_eq_false hc.symm)]
        by_cases hp : pre = true
        · refine ev_pos hp ?_
          rw [numeric_ev s hs, if_pos hp]
          refine ev_bind (Ev.now _) ?_
          by_cases hn : numB s.data.toList = true
          · refine ev_pos hn (ev_bind (is_ev s hs) ?_)
            rw [if_pos hn]
            by_cases hi : isNum (bytesOf s) = true
            · exact ev_pos hi (ev_now (by rw [if_pos hi]))
            · exact ev_neg hi (ev_now (by rw [if_neg hi]))
          · exact ev_neg hn (ev_now (by rw [if_neg hn]))
        · exact ev_neg hp (ev_now (by rw [if_neg hp]))
    by_cases h1 : (s.size : Int) > 255
    · exact ev_pos h1 (hj _ (by rw [decide_eq_true]; exact .inl (by omega)))
    · exact ev_neg h1 (hj _ (by rw [decide_eq_decide]; omega))
theorem wrong_ev (s : ByteArray) (hs : s.size ≤ 140737488351232) (i : Nat) (pre : Bool) : Ev (fun k => ferruleref02_wrong.f k s (i : Int) pre) (chk s i pre) := by
  unfold ferruleref02_wrong.f chk
  rw [toList_data]
  by_cases h0 : s.data.toList = []
  · exact ev_pos h0 (ev_now (by rw [if_pos h0]))
  · refine ev_neg h0 ?_
    rw [if_neg h0]
    have hj : ∀ c, c = decide (255 < s.size ∨ 16 ≤ i) → Ev (fun k => ferruleref02_wrong.j0 k s pre c) (if 255 < s.size ∨ 16 ≤ i then 4 else if pre = true then (if numB s.data.toList = true then (if isNum (bytesOf s) = true then 0 else 3) else 0) else 0) := by
      intro c hc
      refine Ev.step (fun k => by rw [ferruleref02_wrong.j0]) ?_
      cases c with
      | true => exact ev_pos rfl (ev_now (by rw [if_pos (of_decide_eq_true hc.symm)]))
      | false =>
        refine ev_neg (by simp) ?_
        rw [if_neg (of_decide_eq_false hc.symm)]
        by_cases hp : pre = true
        · refine ev_pos hp (ev_bind (refNum_ev s hs) ?_)
          rw [if_pos hp]
          by_cases hn : numB s.data.toList = true
          · refine ev_pos hn (ev_bind (refis_ev s hs) ?_)
            rw [if_pos hn]
            by_cases hi : isNum (bytesOf s) = true
            · exact ev_pos hi (ev_now (by rw [if_pos hi]))
            · exact ev_neg hi (ev_now (by rw [if_neg hi]))
          · exact ev_neg hn (ev_now (by rw [if_neg hn]))
        · exact ev_neg hp (ev_now (by rw [if_neg hp]))
    by_cases h1 : (s.size : Int) > 255
    · exact ev_pos h1 (hj _ (by rw [decide_eq_true]; exact .inl (by omega)))
    · exact ev_neg h1 (hj _ (by rw [decide_eq_decide]; omega))

/-- The row behind a beginning. -/
def go (pre : Bool) : List Int → List Int → List ByteArray → Int → List ByteArray × Int × Int
  | [], w, l, n => if chk (strOfNums w) l.length pre = 0 then (l ++ [strOfNums w], n, 0) else ([], 0, chk (strOfNums w) l.length pre)
  | c :: r, w, l, n => if isB c = true then go pre r (w ++ [c]) l (n + 1) else
    if chk (strOfNums w) l.length pre = 0 then (if c = 46 then go pre r [] (l ++ [strOfNums w]) (n + 1) else (l ++ [strOfNums w], n, 0)) else ([], 0, chk (strOfNums w) l.length pre)
theorem go_len (pre : Bool) (r : List Int) : ∀ (w : List Int) (l : List ByteArray) (n : Int), (go pre r w l n).1.length ≤ l.length + r.length + 1 := by
  induction r with
  | nil => intro w l n; unfold go; split <;> simp
  | cons c r ih =>
    intro w l n
    unfold go
    split
    · exact Nat.le_trans (ih _ _ _) (by rw [List.length_cons]; omega)
    · split
      · split
        · exact Nat.le_trans (ih _ _ _) (by rw [List.length_cons, List.length_append, List.length_singleton]; omega)
        · simp
      · simp
theorem go_n (pre : Bool) (r : List Int) : ∀ (w : List Int) (l : List ByteArray) (n : Int), 0 ≤ n → 0 ≤ (go pre r w l n).2.1 ∧ (go pre r w l n).2.1 ≤ n + r.length := by
  induction r with
  | nil =>
    intro w l n hn
    unfold go
    split
    · simp only [List.length_nil]; omega
    · simp only [List.length_nil]; omega
  | cons c r ih =>
    intro w l n hn
    unfold go
    rw [List.length_cons]
    split
    · have := ih (w ++ [c]) l (n + 1) (by omega)
      omega
    · split
      · split
        · have := ih [] (l ++ [strOfNums w]) (n + 1) (by omega)
          omega
        · simp only; omega
      · simp only; omega
def rowP (b : List Int) (a : Int) (pre : Bool) : List ByteArray × Int × Int := if a < 0 ∨ (b.length : Int) < a then ([], 0, 1) else go pre (b.drop a.toNat) [] [] 0
theorem take_snoc (b : List Int) (i n : Nat) (hi : i ≤ n) (h : n < b.length) : (b.take (n + 1)).drop i = (b.take n).drop i ++ [b[n]] := by
  rw [List.take_succ_eq_append_getElem h, List.drop_append_of_le_length (by rw [List.length_take]; omega)]
theorem rd_get (b : List Int) (n : Nat) (h : n < b.length) : rd b (n : Int) = b[n] := by rw [rd_of (by omega) (by omega)]; rfl

theorem row_l0 (b : List Int) (hb : ∀ x ∈ b, 0 ≤ x ∧ x < 256) (hl : b.length ≤ 1000000000) (pre : Bool) (at_ : Nat) (d : Nat) : ∀ (l : List ByteArray) (i n : Nat), b.length - n = d → at_ ≤ i → i ≤ n → n ≤ b.length → l.length ≤ n →
    Ev (fun k => ident_Row.l0 k b (at_ : Int) pre l (i : Int) (n : Int)) (go pre (b.drop n) ((b.take n).drop i) l ((n : Int) - at_)) := by
  induction d with
  | zero =>
    intro l i n hd hai hin hn hll
    have hsz : (strOfNums ((b.take n).drop i)).size ≤ 140737488351232 := by rw [strOfNums_size, List.length_drop, List.length_take]; omega
    rw [List.drop_eq_nil_of_le (show b.length ≤ n by omega)]
    refine Ev.step (fun k => by rw [ident_Row.l0]) (ev_neg (by omega) ?_)
    refine Ev.step (fun k => by rw [ident_Row.j2]) (ev_neg (by simp) (ev_pos (by omega) (ev_pos (by omega) (ev_pos (by omega) ?_))))
    rw [show ((n : Int)).toNat = n by omega, show ((i : Int)).toNat = i by omega]
    refine ev_bind (check_ev _ hsz l.length pre) ?_
    unfold go
    by_cases h : chk (strOfNums ((b.take n).drop i)) l.length pre = 0
    · refine ev_pos h (ev_pos (by omega) (ev_bind (Ev.now _) (ev_neg (by omega) (ev_now ?_))))
      rw [if_pos h, wrap64_in (by omega) (by omega)]
    · refine ev_neg h (ev_now ?_)
      rw [if_neg h]
  | succ d ih =>
    intro l i n hd hai hin hn hll
    have hlt : n < b.length := by omega
    have hc := hb _ (List.getElem_mem hlt)
    have hsz : (strOfNums ((b.take n).drop i)).size ≤ 140737488351232 := by rw [strOfNums_size, List.length_drop, List.length_take]; omega
    rw [List.drop_eq_getElem_cons hlt]
    refine Ev.step (fun k => by rw [ident_Row.l0]) (ev_pos (by omega) (ev_pos (by omega) ?_))
    rw [rd_get b n hlt, isByte_eq _ hc]
    refine ev_bind (Ev.now _) ?_
    refine Ev.step (fun k => by rw [ident_Row.j2]) ?_
    rw [go]
    by_cases h1 : isB b[n] = true
    · refine ev_pos h1 ?_
      rw [if_pos h1, wrap64_in (by omega) (by omega), show (n : Int) + 1 = ((n + 1 : Nat) : Int) by omega, ← take_snoc b i n hin hlt, show (n : Int) - at_ + 1 = ((n + 1 : Nat) : Int) - at_ by omega]
      exact ih l i (n + 1) (by omega) hai (by omega) (by omega) (by omega)
    · refine ev_neg h1 (ev_pos (by omega) (ev_pos (by omega) (ev_pos (by omega) ?_)))
      rw [if_neg h1, show ((n : Int)).toNat = n by omega, show ((i : Int)).toNat = i by omega]
      refine ev_bind (check_ev _ hsz l.length pre) ?_
      by_cases h : chk (strOfNums ((b.take n).drop i)) l.length pre = 0
      · refine ev_pos h (ev_pos (by omega) (ev_bind (Ev.now _) (ev_pos (by omega) (ev_pos (by omega) ?_))))
        rw [if_pos h, rd_get b n hlt]
        by_cases h46 : b[n] = 46
        · refine ev_pos h46 ?_
          rw [if_pos h46, wrap64_in (by omega) (by omega), show (n : Int) + 1 = ((n + 1 : Nat) : Int) by omega, show (n : Int) - at_ + 1 = ((n + 1 : Nat) : Int) - at_ by omega]
          have e : (b.take (n + 1)).drop (n + 1) = [] := List.drop_eq_nil_of_le (by rw [List.length_take]; omega)
          have := ih (l ++ [strOfNums ((b.take n).drop i)]) (n + 1) (n + 1) (by omega) (by omega) (by omega) (by omega) (by simp; omega)
          rw [e] at this
          exact this
        · refine ev_neg h46 (ev_now ?_)
          rw [if_neg h46, wrap64_in (by omega) (by omega)]
      · refine ev_neg h (ev_now ?_)
        rw [if_neg h]
theorem row_ev (b : List Int) (hb : ∀ x ∈ b, 0 ≤ x ∧ x < 256) (hl : b.length ≤ 1000000000) (a : Int) (pre : Bool) : Ev (fun k => ident_Row.f k b a pre) (rowP b a pre) := by
  unfold ident_Row.f rowP
  have hj1 : Ev (fun k => ident_Row.j0 k b a pre ([] : List ByteArray) true) ([], 0, 1) := Ev.step (fun k => by rw [ident_Row.j0]) (ev_pos rfl (Ev.now _))
  by_cases h1 : a < 0
  · refine ev_pos h1 ?_
    rw [if_pos (.inl h1)]; exact hj1
  · refine ev_neg h1 ?_
    by_cases h2 : a > (b.length : Int)
    · rw [decide_eq_true h2, if_pos (.inr h2)]; exact hj1
    · rw [decide_eq_false h2, if_neg (by omega)]
      refine Ev.step (fun k => by rw [ident_Row.j0]) (ev_neg (by simp) ?_)
      have := row_l0 b hb hl pre a.toNat _ [] a.toNat a.toNat rfl (by omega) (by omega) (by omega) (by simp)
      rw [show ((a.toNat : Nat) : Int) = a by omega, show (b.take a.toNat).drop a.toNat = [] from List.drop_eq_nil_of_le (by rw [List.length_take]; omega), Int.sub_self] at this
      exact this

theorem isB_dot : isB 46 = false := by decide
theorem ref_l1 (b : List Int) (hb : ∀ x ∈ b, 0 ≤ x ∧ x < 256) (hl : b.length ≤ 1000000000) (pre : Bool) (at_ e : Nat) (he : e ≤ b.length) (hin : ∀ j (hj : j < b.length), at_ ≤ j → j < e → isB b[j] = true ∨ b[j] = 46)
    (hout : ∀ hj : e < b.length, isB b[e] = false ∧ b[e] ≠ 46) (d : Nat) : ∀ (l : List ByteArray) (w : List Int) (n : Nat), e - n = d → at_ ≤ n → n ≤ e → l.length ≤ n → w.length ≤ n →
    Ev (fun k => ferruleref02_Row.l1 k (strOfNums b) (at_ : Int) pre (e : Int) l (strOfNums w) (n : Int)) (go pre (b.drop n) w l ((n : Int) - at_)) := by
  have hsz : (strOfNums b).size = b.length := strOfNums_size b
  have hbt : ∀ n (h : n < b.length), bt (strOfNums b) (n : Int) = b[n] := fun n h => by rw [bt_bs, bs_ofNums b hb, rd_get b n h]
  induction d with
  | zero =>
    intro l w n hd han hne hll hw
    obtain rfl : n = e := by omega
    have hws : (strOfNums w).size ≤ 140737488351232 := by rw [strOfNums_size]; omega
    refine Ev.step (fun k => by rw [ferruleref02_Row.l1]) (ev_pos (by omega) (ev_neg (by omega) ?_))
    refine Ev.step (fun k => by rw [ferruleref02_Row.j4]) (ev_neg (by simp) (ev_bind (wrong_ev _ hws l.length pre) ?_))
    have hgo : go pre (b.drop n) w l ((n : Int) - at_) = if chk (strOfNums w) l.length pre = 0 then (l ++ [strOfNums w], (n : Int) - at_, 0) else ([], 0, chk (strOfNums w) l.length pre) := by
      by_cases hlt : n < b.length
      · rw [List.drop_eq_getElem_cons hlt, go]
        obtain ⟨g1, g2⟩ := hout hlt
        rw [g1, if_neg (by simp), if_neg g2]
      · rw [List.drop_eq_nil_of_le (by omega), go]
    rw [hgo]
    by_cases h : chk (strOfNums w) l.length pre = 0
    · refine ev_pos h (ev_pos (by omega) ?_)
      rw [if_pos h]
      refine Ev.step (fun k => by rw [ferruleref02_Row.l1]) ?_
      rw [wrap64_in (x := (n : Int) + 1) (by omega) (by omega)]
      refine ev_neg (by omega) (ev_now ?_)
      rw [wrap64_in (by omega) (by omega)]
    · refine ev_neg h (ev_now ?_)
      rw [if_neg h]
  | succ d ih =>
    intro l w n hd han hne hll hw
    have hlt : n < b.length := by omega
    have hws : (strOfNums w).size ≤ 140737488351232 := by rw [strOfNums_size]; omega
    rw [List.drop_eq_getElem_cons hlt, go]
    refine Ev.step (fun k => by rw [ferruleref02_Row.l1]) (ev_pos (by omega) (ev_pos (by omega) (ev_pos (by omega) (ev_pos (by omega) ?_))))
    rw [hbt n hlt]
    refine Ev.step (fun k => by rw [ferruleref02_Row.j4]) ?_
    by_cases h46 : b[n] = 46
    · rw [h46, isB_dot, if_neg (by simp)]
      refine ev_neg (by simp) (ev_bind (wrong_ev _ hws l.length pre) ?_)
      by_cases h : chk (strOfNums w) l.length pre = 0
      · refine ev_pos h (ev_pos (by omega) ?_)
        rw [if_pos h, if_pos rfl, wrap64_in (by omega) (by omega), show (n : Int) + 1 = ((n + 1 : Nat) : Int) by omega, show (n : Int) - at_ + 1 = ((n + 1 : Nat) : Int) - at_ by omega]
        exact ih (l ++ [strOfNums w]) [] (n + 1) (by omega) (by omega) (by omega) (by simp; omega) (by simp)
      · refine ev_neg h (ev_now ?_)
        rw [if_neg h]
    · have hB : isB b[n] = true := (hin n hlt han (by omega)).resolve_right h46
      rw [if_pos hB]
      refine ev_pos (by simpa using h46) ?_
      rw [wrap64_in (by omega) (by omega)]
      refine ev_pos (by omega) (ev_pos (by omega) (ev_pos (by omega) (ev_bind (Ev.now _) ?_)))
      have ex : (strOfNums b).extract ((n : Int)).toNat ((n : Int) + 1).toNat = strOfNums [b[n]] := by
        apply bs_inj
        rw [bs_extract, bs_ofNums b hb, bs_ofNums _ (by simpa using hb _ (List.getElem_mem hlt)), show ((n : Int)).toNat = n by omega, show ((n : Int) + 1).toNat = n + 1 by omega, take_snoc b n n (Nat.le_refl _) hlt, show (b.take n).drop n = [] from List.drop_eq_nil_of_le (by rw [List.length_take]; omega)]
        rfl
      rw [ex]
      have ey : strOfNums w ++ strOfNums [b[n]] = strOfNums (w ++ [b[n]]) := by
        apply congrArg ByteArray.mk (a₁ := ((strOfNums w).data ++ (strOfNums [b[n]]).data)) (a₂ := (strOfNums (w ++ [b[n]])).data) _ |> fun h => by
          rw [← ByteArray.data_append] at h
          exact h
        apply Array.toList_inj.mp
        rw [Array.toList_append, strOfNums_data, strOfNums_data, strOfNums_data, List.map_append]
      rw [ey]
      refine ev_pos (by rw [strOfNums_size, strOfNums_size]; simp; omega) ?_
      rw [show (n : Int) + 1 = ((n + 1 : Nat) : Int) by omega, show (n : Int) - at_ + 1 = ((n + 1 : Nat) : Int) - at_ by omega]
      exact ih l (w ++ [b[n]]) (n + 1) (by omega) (by omega) (by omega) (by omega) (by simp; omega)
theorem ref_l0 (b : List Int) (hb : ∀ x ∈ b, 0 ≤ x ∧ x < 256) (hl : b.length ≤ 1000000000) (pre : Bool) (at_ : Nat) (d : Nat) : ∀ (n : Nat), b.length - n = d → at_ ≤ n → n ≤ b.length → (∀ j (hj : j < b.length), at_ ≤ j → j < n → isB b[j] = true ∨ b[j] = 46) →
    Ev (fun k => ferruleref02_Row.l0 k (strOfNums b) (at_ : Int) pre (n : Int)) (go pre (b.drop at_) [] [] 0) := by
  have hsz : (strOfNums b).size = b.length := strOfNums_size b
  have hbt : ∀ n (h : n < b.length), bt (strOfNums b) (n : Int) = b[n] := fun n h => by rw [bt_bs, bs_ofNums b hb, rd_get b n h]
  have fin : ∀ n, at_ ≤ n → n ≤ b.length → (∀ j (hj : j < b.length), at_ ≤ j → j < n → isB b[j] = true ∨ b[j] = 46) → (∀ hj : n < b.length, isB b[n] = false ∧ b[n] ≠ 46) →
      Ev (fun k => ferruleref02_Row.j2 k (strOfNums b) (at_ : Int) pre (n : Int)) (go pre (b.drop at_) [] [] 0) := by
    intro n h1 h2 h3 h4
    refine Ev.step (fun k => by rw [ferruleref02_Row.j2]) ?_
    have := ref_l1 b hb hl pre at_ n h2 h3 h4 _ [] [] at_ rfl (Nat.le_refl _) h1 (by simp) (by simp)
    rw [Int.sub_self] at this
    exact this
  induction d with
  | zero =>
    intro n hd h1 h2 h3
    refine Ev.step (fun k => by rw [ferruleref02_Row.l0]) (ev_neg (by omega) ?_)
    exact fin n h1 h2 h3 fun hj => by omega
  | succ d ih =>
    intro n hd h1 h2 h3
    have hlt : n < b.length := by omega
    have hc := hb _ (List.getElem_mem hlt)
    refine Ev.step (fun k => by rw [ferruleref02_Row.l0]) (ev_pos (by omega) (ev_pos (by omega) ?_))
    rw [hbt n hlt, byte_eq _ hc]
    refine ev_bind (Ev.now _) ?_
    have next : isB b[n] = true ∨ b[n] = 46 → Ev (fun k => ferruleref02_Row.l0 k (strOfNums b) (at_ : Int) pre (wrap64 ((n : Int) + 1))) (go pre (b.drop at_) [] [] 0) := by
      intro h
      rw [wrap64_in (by omega) (by omega), show (n : Int) + 1 = ((n + 1 : Nat) : Int) by omega]
      refine ih (n + 1) (by omega) (by omega) (by omega) fun j hj ha hjn => ?_
      by_cases e : j = n
      · subst e; exact h
      · exact h3 j hj ha (by omega)
    by_cases g1 : isB b[n] = true
    · exact ev_pos g1 (next (.inl g1))
    · refine ev_neg g1 ?_
      by_cases g2 : b[n] = 46
      · exact ev_pos g2 (next (.inr g2))
      · refine ev_neg g2 (fin n h1 h2 h3 fun _ => ⟨by simpa using g1, g2⟩)
theorem refrow_ev (b : List Int) (hb : ∀ x ∈ b, 0 ≤ x ∧ x < 256) (hl : b.length ≤ 1000000000) (a : Int) (pre : Bool) : Ev (fun k => ferruleref02_Row.f k (strOfNums b) a pre) (rowP b a pre) := by
  have hsz : (strOfNums b).size = b.length := strOfNums_size b
  unfold ferruleref02_Row.f rowP
  have hj1 : Ev (fun k => ferruleref02_Row.j0 k (strOfNums b) a pre true) ([], 0, 1) := Ev.step (fun k => by rw [ferruleref02_Row.j0]) (ev_pos rfl (Ev.now _))
  by_cases h1 : a < 0
  · refine ev_pos h1 ?_
    rw [if_pos (.inl h1)]; exact hj1
  · refine ev_neg h1 ?_
    by_cases h2 : a > ((strOfNums b).size : Int)
    · rw [decide_eq_true h2, if_pos (.inr (by omega))]; exact hj1
    · rw [decide_eq_false h2, if_neg (by omega)]
      refine Ev.step (fun k => by rw [ferruleref02_Row.j0]) (ev_neg (by simp) ?_)
      have := ref_l0 b hb hl pre a.toNat _ a.toNat rfl (Nat.le_refl _) (by omega) fun j hj h1 h2 => by omega
      rw [show ((a.toNat : Nat) : Int) = a by omega] at this
      exact this

theorem rdOf_get (l : List ByteArray) (n : Nat) (h : n < l.length) : rdOf ByteArray.empty l (n : Int) = l[n] := by
  unfold rdOf
  rw [List.getD_eq_getElem?_getD, show ((n : Int)).toNat = n by omega, List.getElem?_eq_getElem h]
  rfl
theorem text_eq (a b : ByteArray) : a.toList = b.toList ↔ a = b := by
  rw [toList_data, toList_data]
  constructor
  · intro h
    cases a; cases b
    congr 1
    exact Array.toList_inj.mp h
  · rintro rfl; rfl
theorem same_l0 (a b : List ByteArray) (hl : a.length = b.length) (ha : a.length ≤ 140737488351232) (d : Nat) : ∀ n : Nat, a.length - n = d → n ≤ a.length → Ev (fun k => ferruleref02_Same.l0 k a b (n : Int)) (decide (a.drop n = b.drop n)) := by
  induction d with
  | zero =>
    intro n hd hn
    refine Ev.step (fun k => by rw [ferruleref02_Same.l0]) (ev_neg (by omega) (ev_now ?_))
    rw [List.drop_eq_nil_of_le (by omega), List.drop_eq_nil_of_le (by omega)]
    rfl
  | succ d ih =>
    intro n hd hn
    have h1 : n < a.length := by omega
    have h2 : n < b.length := by omega
    refine Ev.step (fun k => by rw [ferruleref02_Same.l0]) (ev_pos (by omega) (ev_pos (by omega) (ev_pos (by omega) ?_)))
    rw [List.drop_eq_getElem_cons h1, List.drop_eq_getElem_cons h2, rdOf_get a n h1, rdOf_get b n h2]
    by_cases h : a[n] = b[n]
    · refine ev_pos ((text_eq _ _).mpr h) ?_
      rw [wrap64_in (by omega) (by omega), show (n : Int) + 1 = ((n + 1 : Nat) : Int) by omega]
      have e : decide (a[n] :: a.drop (n + 1) = b[n] :: b.drop (n + 1)) = decide (a.drop (n + 1) = b.drop (n + 1)) := by
        rw [decide_eq_decide]
        constructor
        · intro h'; exact (List.cons.inj h').2
        · intro h'; rw [h, h']
      rw [e]
      exact ih (n + 1) (by omega) (by omega)
    · refine ev_neg (fun h' => h ((text_eq _ _).mp h')) (ev_now ?_)
      symm
      exact decide_eq_false fun h' => h (List.cons.inj h').1
theorem same_ev (a b : List ByteArray) (ha : a.length ≤ 140737488351232) : Ev (fun k => ferruleref02_Same.f k a b) (decide (a = b)) := by
  unfold ferruleref02_Same.f
  by_cases h : (a.length : Int) = (b.length : Int)
  · refine ev_pos h ?_
    have := same_l0 a b (by omega) ha _ 0 rfl (by omega)
    exact this
  · refine ev_neg h (ev_now ?_)
    symm
    exact decide_eq_false fun e => h (by rw [e])
theorem rowP_len (b : List Int) (hl : b.length ≤ 600) (a : Int) (pre : Bool) : (rowP b a pre).1.length ≤ 140737488351232 := by
  unfold rowP
  split
  · simp
  · have := go_len pre (b.drop a.toNat) [] [] 0
    simp at this
    omega
end Go.Proofs.YtildmfegfkiknaaDoor.Row02
