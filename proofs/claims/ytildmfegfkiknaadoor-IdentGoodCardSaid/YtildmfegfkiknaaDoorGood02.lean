/- Which rows are good, and their texts: the program's functions and the document's come to plain ones. -/
import Derived.Test.YtildmfegfkiknaaDoorRow02
import Derived.Test.YtildmfegfkiknaaDoorXn40
import Derived.Test.YtildmfegfkiknaaDoorXn42
import Derived.Test.YtildmfegfkiknaaDoorXn39
import Derived.Test.YtildmfegfkiknaaDoorXn41
namespace Go.Proofs.YtildmfegfkiknaaDoor.Good02
open Go.RowKit Go.Proofs.YtildmfegfkiknaaDoor.X Go.Proofs.YtildmfegfkiknaaDoorW.PrintWords Go.Proofs.YtildmfegfkiknaaDoorW.PrintMore Go.Proofs.YtildmfegfkiknaaDoor.Aid Go.Proofs.YtildmfegfkiknaaDoor.Digits Go.Proofs.YtildmfegfkiknaaDoor.Row02

/-- Good identifiers, from the i-th place on. -/
def goodL (pre : Bool) : List ByteArray → Nat → Bool
  | [], _ => true
  | x :: l, i => decide (chk x i pre = 0) && ((bytesOf x).all isB && goodL pre l (i + 1))
theorem rdOf_get (l : List ByteArray) (n : Nat) (h : n < l.length) : rdOf ByteArray.empty l (n : Int) = l[n] := by
  unfold rdOf
  rw [show ((n : Int)).toNat = n by omega, List.getD_eq_getElem?_getD, List.getElem?_eq_getElem h]
  rfl
theorem bt_in (s : ByteArray) (n : Nat) (h : n < s.size) : bt s (n : Int) = (bytesOf s)[n]'(by rw [bs_length]; exact h) ∧ 0 ≤ bt s (n : Int) ∧ bt s (n : Int) < 256 := by
  have e : bt s (n : Int) = (bytesOf s)[n]'(by rw [bs_length]; exact h) := by rw [bt_bs, rd_get _ n (by rw [bs_length]; exact h)]
  refine ⟨e, ?_⟩
  rw [e]
  exact bs_bytes s _ (List.getElem_mem _)
theorem size_at (l : List ByteArray) (hs : ∀ x ∈ l, x.size ≤ 300) (n : Nat) (h : n < l.length) : l[n].size ≤ 300 := hs _ (List.getElem_mem h)
section
variable (l : List ByteArray) (pre : Bool) (hl : l.length ≤ 40) (hs : ∀ x ∈ l, x.size ≤ 300)
include hl hs
theorem good_l1 (n : Nat) (hn : n < l.length) (g : Bool) (hg : Ev (fun k => ident_Good.l0 k pre l (l.length : Int) ((n + 1 : Nat) : Int)) g) (d : Nat) : ∀ j : Nat, l[n].size - j = d → j ≤ l[n].size →
    Ev (fun k => ident_Good.l1 k pre l[n] l (l.length : Int) (n : Int) (l[n].size : Int) (j : Int)) (((bytesOf l[n]).drop j).all isB && g) := by
  have hsz := size_at l hs n hn
  have hbl := bs_length l[n]
  induction d with
  | zero =>
    intro j hd hj
    refine Ev.step (fun k => by rw [ident_Good.l1]) (ev_neg (by omega) ?_)
    rw [wrap64_in (by omega) (by omega), List.drop_eq_nil_of_le (by omega), show (n : Int) + 1 = ((n + 1 : Nat) : Int) by omega]
    exact hg
  | succ d ih =>
    intro j hd hj
    have hlt : j < l[n].size := by omega
    obtain ⟨e, hb⟩ := bt_in l[n] j hlt
    refine Ev.step (fun k => by rw [ident_Good.l1]) (ev_pos (by omega) (ev_pos (by omega) (ev_pos (by omega) ?_)))
    rw [isByte_eq _ hb, e, List.drop_eq_getElem_cons (show j < (bytesOf l[n]).length by omega), List.all_cons]
    refine ev_bind (Ev.now _) ?_
    cases h : isB ((bytesOf l[n])[j]'(by omega)) with
    | true =>
      refine ev_pos rfl ?_
      rw [wrap64_in (by omega) (by omega), show (j : Int) + 1 = ((j + 1 : Nat) : Int) by omega, Bool.true_and]
      exact ih (j + 1) (by omega) (by omega)
    | false => exact ev_neg (by simp) (Ev.now _)
theorem good_l0 (d : Nat) : ∀ n : Nat, l.length - n = d → n ≤ l.length → Ev (fun k => ident_Good.l0 k pre l (l.length : Int) (n : Int)) (goodL pre (l.drop n) n) := by
  induction d with
  | zero =>
    intro n hd hn
    refine Ev.step (fun k => by rw [ident_Good.l0]) (ev_neg (by omega) (ev_now ?_))
    rw [List.drop_eq_nil_of_le (by omega)]; rfl
  | succ d ih =>
    intro n hd hn
    have hlt : n < l.length := by omega
    have hsz := size_at l hs n hlt
    refine Ev.step (fun k => by rw [ident_Good.l0]) (ev_pos (by omega) (ev_pos (by omega) (ev_pos (by omega) ?_)))
    rw [rdOf_get l n hlt, List.drop_eq_getElem_cons hlt, goodL]
    refine ev_bind (check_ev l[n] (by omega) n pre) ?_
    by_cases h : chk l[n] n pre = 0
    · refine ev_pos h ?_
      rw [decide_eq_true h, Bool.true_and]
      have := good_l1 l pre hl hs n hlt _ (ih (n + 1) (by omega) (by omega)) _ 0 rfl (by omega)
      rwa [List.drop_zero] at this
    · refine ev_neg h (ev_now ?_)
      rw [decide_eq_false h, Bool.false_and]
theorem good_ev : Ev (fun k => ident_Good.f k l pre) (goodL pre l 0) := by
  unfold ident_Good.f
  exact good_l0 l pre hl hs _ 0 rfl (by omega)
theorem ref_l1 (n : Nat) (hn : n < l.length) (g : Bool) (hg : Ev (fun k => ferruleref02_Good.l0 k l pre ((n + 1 : Nat) : Int)) g) (d : Nat) : ∀ j : Nat, l[n].size - j = d → j ≤ l[n].size →
    Ev (fun k => ferruleref02_Good.l1 k l pre (n : Int) (j : Int)) (((bytesOf l[n]).drop j).all isB && g) := by
  have hsz := size_at l hs n hn
  have hbl := bs_length l[n]
  have hrd := rdOf_get l n hn
  induction d with
  | zero =>
    intro j hd hj
    refine Ev.step (fun k => by rw [ferruleref02_Good.l1]) (ev_pos (by omega) (ev_pos (by omega) (ev_neg (by rw [hrd]; omega) ?_)))
    rw [wrap64_in (by omega) (by omega), List.drop_eq_nil_of_le (by omega), show (n : Int) + 1 = ((n + 1 : Nat) : Int) by omega]
    exact hg
  | succ d ih =>
    intro j hd hj
    have hlt : j < l[n].size := by omega
    obtain ⟨e, hb⟩ := bt_in l[n] j hlt
    refine Ev.step (fun k => by rw [ferruleref02_Good.l1]) (ev_pos (by omega) (ev_pos (by omega) (ev_pos (by rw [hrd]; omega) (ev_pos (by omega) ?_))))
    rw [hrd, byte_eq _ hb, e, List.drop_eq_getElem_cons (show j < (bytesOf l[n]).length by omega), List.all_cons]
    refine ev_bind (Ev.now _) ?_
    cases h : isB ((bytesOf l[n])[j]'(by omega)) with
    | true =>
      refine ev_pos rfl ?_
      rw [wrap64_in (by omega) (by omega), show (j : Int) + 1 = ((j + 1 : Nat) : Int) by omega, Bool.true_and]
      exact ih (j + 1) (by omega) (by omega)
    | false => exact ev_neg (by simp) (Ev.now _)
theorem ref_l0 (d : Nat) : ∀ n : Nat, l.length - n = d → n ≤ l.length → Ev (fun k => ferruleref02_Good.l0 k l pre (n : Int)) (goodL pre (l.drop n) n) := by
  induction d with
  | zero =>
    intro n hd hn
    refine Ev.step (fun k => by rw [ferruleref02_Good.l0]) (ev_neg (by omega) (ev_now ?_))
    rw [List.drop_eq_nil_of_le (by omega)]; rfl
  | succ d ih =>
    intro n hd hn
    have hlt : n < l.length := by omega
    have hsz := size_at l hs n hlt
    refine Ev.step (fun k => by rw [ferruleref02_Good.l0]) (ev_pos (by omega) (ev_pos (by omega) ?_))
    rw [rdOf_get l n hlt, List.drop_eq_getElem_cons hlt, goodL]
    refine ev_bind (wrong_ev l[n] (by omega) n pre) ?_
    by_cases h : chk l[n] n pre = 0
    · refine ev_pos h ?_
      rw [decide_eq_true h, Bool.true_and]
      have := ref_l1 l pre hl hs n hlt _ (ih (n + 1) (by omega) (by omega)) _ 0 rfl (by omega)
      rwa [List.drop_zero] at this
    · refine ev_neg h (ev_now ?_)
      rw [decide_eq_false h, Bool.false_and]
theorem refgood_ev : Ev (fun k => ferruleref02_Good.f k l pre) (goodL pre l 0) := by
  unfold ferruleref02_Good.f
  exact ref_l0 l pre hl hs _ 0 rfl (by omega)
end

/-- The text of a row. -/
def textL (l : List ByteArray) : ByteArray := ⟨(Lib.join (l.map (·.data.toList)) [46]).toArray⟩
/-- The text behind an identifier. -/
def tailL : List ByteArray → List Int
  | [] => []
  | x :: l => 46 :: (bytesOf x ++ tailL l)
theorem bs_text (x : ByteArray) (l : List ByteArray) : bytesOf (textL (x :: l)) = bytesOf x ++ tailL l := by
  unfold textL
  rw [List.map_cons, Lib.join_cons]
  show ((x.data.toList ++ Lib.joinTail [46] (l.map (·.data.toList))).map fun c => (c.toNat : Int)) = _
  rw [List.map_append]
  congr 1
  induction l with
  | nil => rfl
  | cons y l ih =>
    rw [List.map_cons]
    unfold Lib.joinTail at ih ⊢
    rw [List.map_cons, List.flatten_cons, List.map_append, ih, tailL]
    rfl
theorem tail_len (l : List ByteArray) (hs : ∀ x ∈ l, x.size ≤ 300) : (tailL l).length ≤ 301 * l.length := by
  induction l with
  | nil => exact Nat.le_refl _
  | cons x l ih =>
    have := ih (fun y hy => hs y (List.mem_cons_of_mem _ hy))
    have := hs x List.mem_cons_self
    rw [tailL, List.length_cons, List.length_append, bs_length, List.length_cons]
    omega
theorem text_len (l : List ByteArray) (hl : l.length ≤ 40) (hs : ∀ x ∈ l, x.size ≤ 300) : (textL l).size ≤ 12040 := by
  rw [← bs_length]
  cases l with
  | nil => exact Nat.zero_le _
  | cons x l =>
    have h1 := tail_len l (fun y hy => hs y (List.mem_cons_of_mem _ hy))
    have h2 := hs x List.mem_cons_self
    rw [List.length_cons] at hl
    rw [bs_text, List.length_append, bs_length]
    omega
theorem text_some (l : List ByteArray) (hl : l.length ≤ 40) (hs : ∀ x ∈ l, x.size ≤ 300) : ident_Text.f l = some (textL l) := by
  unfold ident_Text.f strings_Join.f
  have h := text_len l hl hs
  have e : (Lib.join (l.map (·.data.toList)) [46]).length = (textL l).size := rfl
  rw [if_pos ⟨by omega, by show (Lib.join (l.map (·.data.toList)) [46]).length ≤ _; omega⟩]
  rfl
theorem reftext_l0 (l : List ByteArray) (hl : l.length ≤ 40) (hs : ∀ x ∈ l, x.size ≤ 300) (d : Nat) : ∀ (n : Nat) (s : ByteArray), l.length - n = d → 1 ≤ n → n ≤ l.length → s.size ≤ 301 * n →
    ∃ r, Ev (fun k => ferruleref02_Text.l0 k l s (n : Int)) r ∧ bytesOf r = bytesOf s ++ tailL (l.drop n) := by
  induction d with
  | zero =>
    intro n s hd h1 hn hsz
    refine ⟨s, Ev.step (fun k => by rw [ferruleref02_Text.l0]) (ev_neg (by omega) (Ev.now _)), ?_⟩
    rw [List.drop_eq_nil_of_le (by omega), tailL, List.append_nil]
  | succ d ih =>
    intro n s hd h1 hn hsz
    have hlt : n < l.length := by omega
    have hsn := hs _ (List.getElem_mem hlt)
    have hz : ((s ++ (⟨#[46]⟩ : ByteArray)) ++ l[n]).size = s.size + 1 + l[n].size := by
      rw [← bs_length, bs_append, bs_append, List.length_append, List.length_append, bs_length, bs_length, bs_length]; rfl
    obtain ⟨r, he, hr⟩ := ih (n + 1) ((s ++ (⟨#[46]⟩ : ByteArray)) ++ l[n]) (by omega) (by omega) (by omega) (by omega)
    refine ⟨r, Ev.step (fun k => by rw [ferruleref02_Text.l0]) ?_, ?_⟩
    · refine ev_pos (by omega) (ev_pos (by omega) (ev_pos (by omega) (ev_pos (by omega) ?_)))
      rw [rdOf_get l n hlt, wrap64_in (by omega) (by omega), show (n : Int) + 1 = ((n + 1 : Nat) : Int) by omega]
      exact ev_pos (by omega) he
    · rw [hr, bs_append, bs_append, List.drop_eq_getElem_cons hlt, tailL, List.append_assoc, List.append_assoc]
      rfl
theorem reftext_ev (l : List ByteArray) (hl : l.length ≤ 40) (hs : ∀ x ∈ l, x.size ≤ 300) : Ev (fun k => ferruleref02_Text.f k l) (textL l) := by
  unfold ferruleref02_Text.f
  cases l with
  | nil =>
    refine Ev.step (fun k => by rw [ferruleref02_Text.l0]) ?_
    exact ev_neg (by simp) (ev_now rfl)
  | cons x l =>
    have hx := hs x List.mem_cons_self
    obtain ⟨r, he, hr⟩ := reftext_l0 (x :: l) hl hs _ 1 ((⟨#[]⟩ : ByteArray) ++ x) rfl (Nat.le_refl _) (by simp) (by rw [← bs_length, bs_append, List.length_append, bs_length, bs_length]; show 0 + _ ≤ _; omega)
    rw [show r = textL (x :: l) from bs_inj (by rw [hr, bs_text, bs_append]; rfl)] at he
    refine Ev.step (fun k => by rw [ferruleref02_Text.l0]) ?_
    refine ev_pos (by simp) (ev_neg (by omega) (ev_pos (by omega) ?_))
    rw [show rdOf ByteArray.empty (x :: l) 0 = x from rfl, wrap64_in (by omega) (by omega)]
    exact ev_pos (by show 0 + x.size ≤ _; omega) he
/-- What a good row's text is read as. -/
theorem go_word (pre : Bool) (x rest : List Int) (hx : x.all isB = true) : ∀ (w : List Int) (l : List ByteArray) (n : Int), go pre (x ++ rest) w l n = go pre rest (w ++ x) l (n + x.length) := by
  induction x with
  | nil => intro w l n; simp
  | cons c x ih =>
    intro w l n
    rw [List.all_cons, Bool.and_eq_true] at hx
    rw [List.cons_append, go, if_pos hx.1, ih hx.2, List.append_assoc, List.length_cons]
    congr 1
    omega
theorem str_bs (x : ByteArray) : strOfNums (bytesOf x) = x := bs_inj (bs_ofNums _ (bs_bytes x))
theorem go_tail (pre : Bool) (e : Int) (he : isB e = false) (he2 : e ≠ 46) (rest : List Int) (t : List ByteArray) : ∀ (x : ByteArray) (l : List ByteArray) (n : Int), goodL pre (x :: t) l.length = true →
    go pre (bytesOf x ++ (tailL t ++ e :: rest)) [] l n = (l ++ x :: t, n + (bytesOf x ++ tailL t).length, 0) := by
  induction t with
  | nil =>
    intro x l n hg
    simp only [goodL, Bool.and_eq_true, decide_eq_true_eq] at hg
    rw [go_word pre _ _ hg.2.1, List.nil_append, tailL, List.nil_append, go, if_neg (by rw [he]; simp), str_bs, if_pos hg.1, if_neg he2, List.append_nil]
  | cons y t ih =>
    intro x l n hg
    rw [goodL, Bool.and_eq_true, Bool.and_eq_true, decide_eq_true_eq] at hg
    rw [go_word pre _ _ hg.2.1, List.nil_append, tailL, List.cons_append, go, if_neg (by rw [isB_dot]; simp), str_bs, if_pos hg.1, if_pos rfl, List.append_assoc, ih y (l ++ [x]) _ (by rw [List.length_append]; exact hg.2.2)]
    simp only [List.append_assoc, List.singleton_append, List.length_append, List.length_cons, Prod.mk.injEq, true_and, and_true]
    omega
theorem row_back (pre : Bool) (e : Int) (he : isB e = false) (he2 : e ≠ 46) (x : ByteArray) (t : List ByteArray) (rest : List Int) (hg : goodL pre (x :: t) 0 = true) :
    rowP (bytesOf (textL (x :: t)) ++ e :: rest) 0 pre = (x :: t, ((textL (x :: t)).size : Int), 0) := by
  unfold rowP
  rw [if_neg (by omega), show (0 : Int).toNat = 0 from rfl, List.drop_zero, bs_text, List.append_assoc, go_tail pre e he he2 rest t x [] 0 hg, ← bs_length, bs_text]
  simp
end Go.Proofs.YtildmfegfkiknaaDoor.Good02
