/- Names: how long the name at a place of some bytes is, and which texts are names: the program and the document. -/
import Derived.Test.YtcebjhbphcoboaaAid
import Derived.Test.YtcebjhbphcoboaaXn13
import Derived.Test.YtcebjhbphcoboaaXn15
import Derived.Test.YtcebjhbphcoboaaXn14
import Derived.Test.YtcebjhbphcoboaaXn16
namespace Go.Proofs.Ytcebjhbphcoboaa.Name08
open Go.RowKit Go.Proofs.Ytcebjhbphcoboaa.X Go.Proofs.YtcebjhbphcoboaaW.PrintWords Go.Proofs.YtcebjhbphcoboaaW.PrintLast Go.Proofs.YtcebjhbphcoboaaW.PrintMore Go.Proofs.Ytcebjhbphcoboaa.Aid

def firstP (c : Int) : Bool := decide (97 ≤ c ∧ c ≤ 122) || decide (48 ≤ c ∧ c ≤ 57)
def byteP (c : Int) : Bool := firstP c || decide (c = 45) || decide (c = 95) || decide (c = 46)
def run (l : List Int) : Nat := (l.takeWhile byteP).length
def fin (m : Nat) : Int × Int := if m > 255 then (0, 12) else ((m : Int), 0)
def scanN (l : List Int) (a : Nat) : Int × Int := match l.drop a with
  | [] => (0, 12)
  | c :: r => if firstP c = true then fin (1 + run r) else (0, 12)
def scanP (l : List Int) (at_ : Int) : Int × Int := if at_ < 0 ∨ at_ > (l.length : Int) then (0, 1) else scanN l at_.toNat
theorem drop_one {α : Type} (l : List α) (n : Nat) (h : n < l.length) : l.drop n = l[n] :: l.drop (n + 1) := List.drop_eq_getElem_cons h
theorem rd_at (l : List Int) (n : Nat) (h : n < l.length) : rd l (n : Int) = l[n] := by rw [rd_of (by omega) (by omega)]; rfl
theorem first_p (c : Int) (h0 : 0 ≤ c) (h1 : c < 256) : name_first.f c = some (firstP c) := by
  unfold name_first.f firstP
  by_cases h : (c - 97) % 256 < 26
  · rw [if_pos h, decide_eq_true (show 97 ≤ c ∧ c ≤ 122 by omega)]; rfl
  · rw [if_neg h, decide_eq_false (show ¬ (97 ≤ c ∧ c ≤ 122) by omega), Bool.false_or]
    refine congrArg some ?_
    rw [decide_eq_decide]; omega
theorem byte_p (c : Int) (h0 : 0 ≤ c) (h1 : c < 256) : name_isByte.f c = some (byteP c) := by
  unfold name_isByte.f byteP
  rw [first_p c h0 h1, Option.bind_some]
  by_cases h : firstP c = true
  · rw [if_pos h, h]; rfl
  · rw [if_neg h, show firstP c = false by simpa using h, Bool.false_or]
    by_cases h2 : c = 45
    · rw [if_pos h2, decide_eq_true h2]; rfl
    · rw [if_neg h2, decide_eq_false h2, Bool.false_or]
      by_cases h3 : c = 95
      · rw [if_pos h3, decide_eq_true h3]; rfl
      · rw [if_neg h3, decide_eq_false h3, Bool.false_or]
        rfl
theorem first_r (c : Int) : ferruleref08_First.f c = some (firstP c) := by
  unfold ferruleref08_First.f firstP
  (repeat' split) <;> refine congrArg some ?_ <;> rw [Bool.eq_iff_iff] <;> simp <;> omega
section
variable (l : List Int) (hl : l.length ≤ 1000000000) (hb : ∀ x ∈ l, 0 ≤ x ∧ x < 256)
include hl hb
theorem p_l0 (a : Nat) (d : Nat) : ∀ n : Nat, l.length - (a + n) = d → a + n ≤ l.length → Ev (fun k => name_Scan.l0 k l (a : Int) (n : Int)) (fin (n + run (l.drop (a + n)))) := by
  have stop : ∀ n : Nat, n ≤ l.length → Ev (fun k => name_Scan.j3 k l (a : Int) (n : Int) false) (fin n) := by
    intro n _
    refine Ev.step (fun k => by rw [name_Scan.j3]) (ev_neg (by simp) ?_)
    unfold fin
    by_cases h : n > 255
    · rw [if_pos h]; exact ev_pos (by omega) (Ev.now _)
    · rw [if_neg h]; exact ev_neg (by omega) (Ev.now _)
  induction d with
  | zero =>
    intro n hd hn
    refine Ev.step (fun k => by rw [name_Scan.l0]) ?_
    rw [wrap64_in (by omega) (by omega)]
    refine ev_neg (by omega) ?_
    rw [List.drop_eq_nil_of_le (by omega)]
    exact stop n (by omega)
  | succ d ih =>
    intro n hd hn
    have hlt : a + n < l.length := by omega
    have hc := hb _ (List.getElem_mem hlt)
    refine Ev.step (fun k => by rw [name_Scan.l0]) ?_
    rw [wrap64_in (x := (a : Int) + n) (by omega) (by omega)]
    refine ev_pos (by omega) (ev_pos (by omega) ?_)
    rw [show (a : Int) + n = ((a + n : Nat) : Int) by omega, rd_at l (a + n) hlt, byte_p _ hc.1 hc.2, drop_one l (a + n) hlt]
    refine ev_bind (Ev.now _) ?_
    unfold run
    rw [List.takeWhile_cons]
    by_cases h : byteP l[a + n] = true
    · rw [h, if_pos rfl]
      refine Ev.step (fun k => by rw [name_Scan.j3]) (ev_pos rfl ?_)
      rw [wrap64_in (by omega) (by omega), show (n : Int) + 1 = ((n + 1 : Nat) : Int) by omega]
      have := ih (n + 1) (by omega) (by omega)
      unfold run at this
      rw [show a + (n + 1) = a + n + 1 by omega] at this
      rw [List.length_cons, show n + ((l.drop (a + n + 1)).takeWhile byteP).length.succ = n + 1 + ((l.drop (a + n + 1)).takeWhile byteP).length by omega]
      exact this
    · rw [if_neg h, show byteP l[a + n] = false by simpa using h]
      exact stop n (by omega)
theorem scan_p (at_ : Int) : Ev (fun k => name_Scan.f k l at_) (scanP l at_) := by
  unfold name_Scan.f scanP
  have bad : Ev (fun k => name_Scan.j0 k l at_ 0 true) (0, 1) := Ev.step (fun k => by rw [name_Scan.j0]) (ev_pos rfl (Ev.now _))
  by_cases h0 : at_ < 0
  · rw [if_pos (.inl h0)]
    exact ev_pos h0 bad
  · refine ev_neg h0 ?_
    by_cases h1 : at_ > (l.length : Int)
    · rw [if_pos (.inr h1), decide_eq_true h1]; exact bad
    · rw [if_neg (by omega), decide_eq_false h1]
      obtain ⟨a, rfl⟩ : ∃ a : Nat, at_ = a := ⟨at_.toNat, by omega⟩
      rw [Int.toNat_natCast]
      refine Ev.step (fun k => by rw [name_Scan.j0]) (ev_neg (by simp) ?_)
      have none_ : Ev (fun k => name_Scan.j1 k l (a : Int) 0 true) (0, 12) := Ev.step (fun k => by rw [name_Scan.j1]) (ev_pos rfl (Ev.now _))
      unfold scanN
      by_cases h2 : a = l.length
      · rw [List.drop_eq_nil_of_le (by omega)]
        exact ev_pos (by omega) none_
      · have hlt : a < l.length := by omega
        have hc := hb _ (List.getElem_mem hlt)
        refine ev_neg (by omega) (ev_pos (by omega) (ev_pos (by omega) ?_))
        rw [rd_at l a hlt, first_p _ hc.1 hc.2, drop_one l a hlt]
        refine ev_bind (Ev.now _) ?_
        dsimp only
        by_cases h3 : firstP l[a] = true
        · rw [h3, if_pos rfl]
          refine Ev.step (fun k => by rw [name_Scan.j1]) (ev_neg (by simp) ?_)
          have := p_l0 l hl hb a (l.length - (a + 0)) 0 rfl (by omega)
          rw [Nat.add_zero, drop_one l a hlt] at this
          unfold run at this ⊢
          rw [List.takeWhile_cons, if_pos (show byteP l[a] = true by unfold byteP; rw [h3]; rfl), List.length_cons, Nat.zero_add] at this
          rw [Nat.add_comm 1]
          exact this
        · rw [if_neg h3, show firstP l[a] = false by simpa using h3]
          exact none_
end
section
variable (s : ByteArray) (hs : s.size ≤ 1000000000)
include hs
theorem r_l0 (a : Nat) (d : Nat) : ∀ n : Nat, 1 ≤ n → s.size - (a + n) = d → a + n ≤ s.size → Ev (fun k => ferruleref08_Scan.l0 k s (a : Int) (n : Int)) (fin (n + run ((bytesOf s).drop (a + n)))) := by
  have hbl := bs_length s
  have stop : ∀ n : Nat, 1 ≤ n → n ≤ s.size → Ev (fun _ => if (n : Int) = 0 then some ((0 : Int), (12 : Int)) else (if (n : Int) > 255 then some (0, 12) else some ((n : Int), 0))) (fin n) := by
    intro n h1 _
    refine ev_neg (by omega) ?_
    unfold fin
    by_cases h : n > 255
    · rw [if_pos h]; exact ev_pos (by omega) (Ev.now _)
    · rw [if_neg h]; exact ev_neg (by omega) (Ev.now _)
  induction d with
  | zero =>
    intro n h1 hd hn
    refine Ev.step (fun k => by rw [ferruleref08_Scan.l0]) ?_
    rw [wrap64_in (by omega) (by omega)]
    refine ev_neg (by omega) ?_
    rw [List.drop_eq_nil_of_le (by omega)]
    exact stop n h1 (by omega)
  | succ d ih =>
    intro n h1 hd hn
    have hlt : a + n < (bytesOf s).length := by omega
    have next : Ev (fun k => ferruleref08_Scan.l0 k s (a : Int) (wrap64 ((n : Int) + 1))) (fin (n + 1 + run ((bytesOf s).drop (a + n + 1)))) := by
      rw [wrap64_in (by omega) (by omega), show (n : Int) + 1 = ((n + 1 : Nat) : Int) by omega, show a + n + 1 = a + (n + 1) by omega]
      exact ih (n + 1) (by omega) (by omega) (by omega)
    refine Ev.step (fun k => by rw [ferruleref08_Scan.l0]) ?_
    rw [wrap64_in (x := (a : Int) + n) (by omega) (by omega)]
    refine ev_pos (by omega) (ev_pos (by omega) ?_)
    rw [bt_bs, show (a : Int) + n = ((a + n : Nat) : Int) by omega, rd_at _ (a + n) hlt, first_r, drop_one _ (a + n) hlt]
    refine ev_bind (Ev.now _) ?_
    have hcons : byteP (bytesOf s)[a + n] = true → n + run ((bytesOf s)[a + n] :: (bytesOf s).drop (a + n + 1)) = n + 1 + run ((bytesOf s).drop (a + n + 1)) := by
      intro h
      unfold run
      rw [List.takeWhile_cons, if_pos h, List.length_cons]; omega
    have hstop : byteP (bytesOf s)[a + n] = false → n + run ((bytesOf s)[a + n] :: (bytesOf s).drop (a + n + 1)) = n := by
      intro h
      unfold run
      rw [List.takeWhile_cons, if_neg (by rw [h]; simp)]; rfl
    generalize (bytesOf s)[a + n] = c at hcons hstop ⊢
    unfold byteP at hcons hstop
    by_cases h2 : firstP c = true
    · rw [hcons (by rw [h2]; rfl)]
      exact ev_pos h2 next
    · refine ev_neg h2 (ev_pos (by omega) ?_)
      have h2' : firstP c = false := by simpa using h2
      by_cases h3 : c = 45
      · rw [hcons (by rw [h2', decide_eq_true h3]; rfl)]
        exact ev_pos h3 next
      · refine ev_neg h3 ?_
        by_cases h4 : c = 95
        · rw [hcons (by rw [h2', decide_eq_true h4]; simp)]
          exact ev_pos h4 next
        · refine ev_neg h4 ?_
          by_cases h5 : c = 46
          · rw [hcons (by rw [h2', decide_eq_true h5]; simp)]
            exact ev_pos h5 next
          · refine ev_neg h5 ?_
            rw [hstop (by rw [h2', decide_eq_false h3, decide_eq_false h4, decide_eq_false h5]; rfl)]
            exact stop n h1 (by omega)
theorem scan_r (at_ : Int) : Ev (fun k => ferruleref08_Scan.f k s at_) (scanP (bytesOf s) at_) := by
  have hbl := bs_length s
  unfold ferruleref08_Scan.f scanP
  have bad : Ev (fun k => ferruleref08_Scan.j0 k s at_ true) (0, 1) := Ev.step (fun k => by rw [ferruleref08_Scan.j0]) (ev_pos rfl (Ev.now _))
  by_cases h0 : at_ < 0
  · rw [if_pos (.inl h0)]
    exact ev_pos h0 bad
  · refine ev_neg h0 ?_
    by_cases h1 : at_ > (s.size : Int)
    · rw [if_pos (.inr (by omega)), decide_eq_true h1]; exact bad
    · rw [if_neg (by omega), decide_eq_false h1]
      obtain ⟨a, rfl⟩ : ∃ a : Nat, at_ = a := ⟨at_.toNat, by omega⟩
      rw [Int.toNat_natCast]
      refine Ev.step (fun k => by rw [ferruleref08_Scan.j0]) (ev_neg (by simp) (Ev.step (fun k => by rw [ferruleref08_Scan.l0]) ?_))
      unfold scanN
      rw [wrap64_in (x := (a : Int) + 0) (by omega) (by omega), Int.add_zero]
      by_cases h2 : a = s.size
      · rw [List.drop_eq_nil_of_le (by omega)]
        exact ev_neg (by omega) (ev_pos rfl (Ev.now _))
      · have hlt : a < (bytesOf s).length := by omega
        refine ev_pos (by omega) (ev_pos (by omega) ?_)
        rw [bt_bs, rd_at _ a hlt, first_r, drop_one _ a hlt]
        refine ev_bind (Ev.now _) ?_
        dsimp only
        by_cases h3 : firstP (bytesOf s)[a] = true
        · rw [if_pos h3]
          refine ev_pos h3 ?_
          rw [show wrap64 (0 + 1) = ((1 : Nat) : Int) by rw [wrap64_in (by omega) (by omega)]; rfl]
          exact r_l0 s hs a _ 1 (Nat.le_refl _) rfl (by omega)
        · rw [if_neg h3]
          exact ev_neg h3 (ev_neg (by omega) (ev_pos rfl (Ev.now _)))
def goodP (s : ByteArray) : Bool := decide ((scanP (bytesOf s) 0).2 = 0) && ((scanP (bytesOf s) 0).1 == (s.size : Int))
theorem good_p : Ev (fun k => name_Good.f k s) (goodP s) := by
  have hbl := bs_length s
  unfold name_Good.f goodP
  refine ev_pos (by omega) (ev_bind (scan_p _ (by omega) (bs_bytes s) 0) ?_)
  by_cases h : (scanP (bytesOf s) 0).2 = 0
  · rw [decide_eq_true h]; exact ev_pos h (ev_now (by simp))
  · rw [decide_eq_false h]; exact ev_neg h (ev_now (by simp))
theorem good_r : Ev (fun k => ferruleref08_Good.f k s) (goodP s) := by
  unfold ferruleref08_Good.f goodP
  refine ev_bind (scan_r s hs 0) ?_
  by_cases h : (scanP (bytesOf s) 0).2 = 0
  · rw [decide_eq_true h]; exact ev_pos h (ev_now (by simp))
  · rw [decide_eq_false h]; exact ev_neg h (ev_now (by simp))
end
end Go.Proofs.Ytcebjhbphcoboaa.Name08
