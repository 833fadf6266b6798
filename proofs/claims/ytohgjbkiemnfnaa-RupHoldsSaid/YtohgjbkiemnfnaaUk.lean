/- RupHolds: what follows holds at all models; it follows from more clauses, too. Plain words; a walk by hand. -/
import Derived.Test.YtohgjbkiemnfnaaUh
import Derived.Test.YtohgjbkiemnfnaaRn32
import Derived.Test.YtohgjbkiemnfnaaRn40
namespace Go.Proofs.Ytohgjbkiemnfnaa.Rup
open Go Go.RowKit Go.Proofs.Ytohgjbkiemnfnaa.R Go.Proofs.Ytohgjbkiemnfnaa.Hlp Go.Proofs.Ytohgjbkiemnfnaa.Aid Go.Proofs.Ytohgjbkiemnfnaa.Clause12 Go.Proofs.Ytohgjbkiemnfnaa.Clean12 Go.Proofs.YtohgjbkiemnfnaaW.PrintWords Go.Proofs.YtohgjbkiemnfnaaW.PrintLast Go.Proofs.YtohgjbkiemnfnaaW.PrintMore
attribute [local go_sem] max2_int min2_int max_two min_two
set_option linter.unusedVariables false
set_option linter.unusedSimpArgs false
/-! A literal's truth under an assignment. -/
def trA (x : Int) (a : List Bool) : Int := if clause_abs.p x = 0 ∨ clause_abs.p x > (a.length : Int) then 0 else if (a.getD (clause_abs.p x - 1).toNat false == decide (x > 0)) = true then 1 else -1
theorem trA_cases (x : Int) (a : List Bool) : trA x a = 0 ∨ trA x a = 1 ∨ trA x a = -1 := by unfold trA; (repeat' split) <;> simp
theorem truthA_ev (x : Int) (a : List Bool) : Ev (fun k => ferruleref12_Truth.f k x a) (trA x a) := by
  have hb := abs_in x
  unfold ferruleref12_Truth.f
  refine ev_bind (var_ev x) ?_
  unfold trA
  generalize clause_abs.p x = v at hb ⊢
  by_cases h0 : v = 0
  · refine ev_pos h0 (Ev.step (fun k => by rw [ferruleref12_Truth.j0]) (ev_pos rfl (ev_now ?_)))
    rw [if_pos (.inl h0)]
  · refine ev_neg h0 (Ev.step (fun k => by rw [ferruleref12_Truth.j0]) ?_)
    by_cases h1 : v > (a.length : Int)
    · rw [decide_eq_true h1]
      exact ev_pos rfl (ev_now (by rw [if_pos (.inr h1)]))
    · rw [decide_eq_false h1, if_neg (show ¬ (v = 0 ∨ v > (a.length : Int)) by omega), wrap64_in (by omega) (by omega)]
      refine ev_neg (by simp) (ev_pos (by omega) (ev_pos (by omega) ?_))
      rw [show rdOf false a (v - 1) = a.getD (v - 1).toNat false from rfl]
      by_cases h2 : (a.getD (v - 1).toNat false == decide (x > 0)) = true
      · exact ev_pos h2 (ev_now (by rw [if_pos h2]))
      · exact ev_neg h2 (ev_now (by rw [if_neg h2]))
def holdsA (c : List Int) (a : List Bool) : Bool := c.any fun x => decide (trA x a > 0)
theorem holdsA_l0 (c : List Int) (a : List Bool) (hc : c.length ≤ 1000000000) (d : Nat) : ∀ n : Nat, c.length - n = d → n ≤ c.length → Ev (fun k => ferruleref12_Holds.l0 k c a (n : Int)) (holdsA (c.drop n) a) := by
  induction d with
  | zero =>
    intro n hd hn
    refine Ev.step (fun k => by rw [ferruleref12_Holds.l0]) (ev_neg (by omega) (ev_now ?_))
    rw [List.drop_eq_nil_of_le (by omega)]; rfl
  | succ d ih =>
    intro n hd hn
    have hlt : n < c.length := by omega
    refine Ev.step (fun k => by rw [ferruleref12_Holds.l0]) (ev_pos (by omega) (ev_pos (by omega) ?_))
    rw [rd_at c n hlt, drop_one c n hlt]
    refine ev_bind (truthA_ev _ _) ?_
    unfold holdsA
    rw [List.any_cons]
    have ht := trA_cases c[n] a
    by_cases h : trA c[n] a = 1
    · refine ev_pos h (ev_now ?_)
      rw [decide_eq_true (show trA c[n] a > 0 by omega), Bool.true_or]
    · refine ev_neg h ?_
      rw [decide_eq_false (show ¬ trA c[n] a > 0 by omega), Bool.false_or, wrap64_in (by omega) (by omega), show (n : Int) + 1 = ((n + 1 : Nat) : Int) by omega]
      exact ih (n + 1) (by omega) (by omega)
theorem holdsA_ev (c : List Int) (a : List Bool) (hc : c.length ≤ 1000000000) : Ev (fun k => ferruleref12_Holds.f k c a) (holdsA c a) := by
  unfold ferruleref12_Holds.f
  exact holdsA_l0 c a hc _ 0 rfl (by omega)
def allA (l : List (List Int)) (a : List Bool) : Bool := l.all fun c => holdsA c a
def enumA : Nat → List Bool → List (List Bool)
  | 0, a => [a]
  | m + 1, a => enumA m (a ++ [false]) ++ enumA m (a ++ [true])
theorem enumA_len (m : Nat) : ∀ a, (enumA m a).length = 2 ^ m := by
  induction m with
  | zero => intro a; rfl
  | succ m ih => intro a; rw [enumA, List.length_append, ih, ih, Nat.pow_succ]; omega
theorem enumA_size (m : Nat) : ∀ a, ∀ x ∈ enumA m a, x.length = a.length + m := by
  induction m with
  | zero => intro a x hx; rw [enumA, List.mem_singleton] at hx; rw [hx]; rfl
  | succ m ih =>
    intro a x hx
    rw [enumA, List.mem_append] at hx
    rcases hx with hx | hx
    · have := ih _ x hx; simp at this; omega
    · have := ih _ x hx; simp at this; omega
section
variable (l : List (List Int)) (hl : l.length ≤ 1000000) (hs : ∀ c ∈ l, c.length ≤ 1000000)
include hl hs
theorem allA_l0 (a : List Bool) (d : Nat) : ∀ n : Nat, l.length - n = d → n ≤ l.length → Ev (fun k => ferruleref12_All.l0 k l a (n : Int)) (allA (l.drop n) a) := by
  induction d with
  | zero =>
    intro n hd hn
    refine Ev.step (fun k => by rw [ferruleref12_All.l0]) (ev_neg (by omega) (ev_now ?_))
    rw [List.drop_eq_nil_of_le (by omega)]; rfl
  | succ d ih =>
    intro n hd hn
    have hlt : n < l.length := by omega
    have hsz := hs l[n] (List.getElem_mem hlt)
    refine Ev.step (fun k => by rw [ferruleref12_All.l0]) (ev_pos (by omega) (ev_pos (by omega) ?_))
    rw [rdL_nat l n hlt, List.drop_eq_getElem_cons hlt]
    refine ev_bind (holdsA_ev l[n] a (by omega)) ?_
    unfold allA
    rw [List.all_cons]
    by_cases h : holdsA l[n] a = true
    · refine ev_pos h ?_
      rw [h, Bool.true_and, wrap64_in (by omega) (by omega), show (n : Int) + 1 = ((n + 1 : Nat) : Int) by omega]
      exact ih (n + 1) (by omega) (by omega)
    · refine ev_neg h (ev_now ?_)
      rw [Bool.not_eq_true] at h
      rw [h, Bool.false_and]
theorem allA_ev (a : List Bool) : Ev (fun k => ferruleref12_All.f k l a) (allA l a) := by
  unfold ferruleref12_All.f
  exact allA_l0 l hl hs a _ 0 rfl (by omega)
theorem models_ev (V : Nat) (hV : V ≤ 8) (m : Nat) : ∀ a : List Bool, a.length + m = V → Ev (fun k => ferruleref12_Models.f k l (V : Int) a) ((enumA m a).filter (allA l)) := by
  induction m with
  | zero =>
    intro a ha
    refine Ev.step (fun k => by rw [ferruleref12_Models.f]) (ev_neg (by omega) ?_)
    rw [decide_eq_false (show ¬ ((V : Int) > 12) by omega)]
    refine Ev.step (fun k => by rw [ferruleref12_Models.j0]) (ev_neg (by simp) (ev_pos (by omega) (ev_bind (allA_ev l hl hs a) ?_)))
    rw [enumA]
    by_cases h : allA l a = true
    · refine ev_pos h (ev_bind (Ev.now _) (ev_pos (by simp; omega) (ev_now ?_)))
      rw [List.filter_cons_of_pos h]; rfl
    · refine ev_neg h (ev_now ?_)
      rw [List.filter_cons_of_neg h]; rfl
  | succ m ih =>
    intro a ha
    have h1 := ih (a ++ [false]) (by simp; omega)
    have h2 := ih (a ++ [true]) (by simp; omega)
    have hpow : 2 ^ m ≤ 2 ^ 8 := Nat.pow_le_pow_right (by decide) (by omega)
    have z1 := List.length_filter_le (allA l) (enumA m (a ++ [false]))
    have z2 := List.length_filter_le (allA l) (enumA m (a ++ [true]))
    rw [enumA_len] at z1 z2
    refine Ev.step (fun k => by rw [ferruleref12_Models.f]) (ev_neg (by omega) ?_)
    rw [decide_eq_false (show ¬ ((V : Int) > 12) by omega)]
    refine Ev.step (fun k => by rw [ferruleref12_Models.j0]) (ev_neg (by simp) (ev_neg (by omega) ?_))
    refine ev_bind (Ev.now _) (ev_pos (by simp; omega) (ev_bind (Ev.now _) (ev_pos (by simp; omega) ?_)))
    rw [List.nil_append]
    refine ev_bind h1 (ev_bind (Ev.now _) (ev_pos (by simp; omega) (ev_bind (Ev.now _) (ev_pos (by simp; omega) ?_))))
    rw [List.nil_append]
    refine ev_bind h2 (ev_pos (by omega) (ev_now ?_))
    rw [enumA, List.filter_append]
end
/-! What follows holds. -/
def g7 (c : List Int) : Bool := !(c.any (clause_Good.p 7))
theorem g7_iff (c : List Int) : g7 c = true ↔ ∀ x ∈ c, x ≠ 0 ∧ -7 ≤ x ∧ x ≤ 7 := by
  unfold g7
  rw [Bool.not_eq_true', List.any_eq_false]
  refine ⟨fun h x hx => ?_, fun h x hx => ?_⟩
  · have h1 := h x hx
    unfold clause_Good.p clause_abs.p at h1
    rw [Bool.or_eq_true, not_or] at h1
    obtain ⟨h2, h3⟩ := h1
    rw [beq_iff_eq] at h2
    rw [decide_eq_true_eq] at h3
    (repeat' split at h2) <;> (repeat' split at h3) <;> omega
  · obtain ⟨h0, h1, h2⟩ := h x hx
    unfold clause_Good.p clause_abs.p
    rw [Bool.or_eq_true, not_or, beq_iff_eq, decide_eq_true_eq]
    (repeat' split) <;> omega
theorem trA_flip (y : Int) (a : List Bool) (h : trA (-y) a = 1) : ¬ trA y a = 1 := by
  have hav : clause_abs.p (-y) = clause_abs.p y := av_neg y
  unfold trA at h ⊢
  rw [hav] at h
  intro h'
  split at h
  · omega
  · rename_i hz
    rw [if_neg hz] at h'
    have hy : y ≠ 0 := by
      rintro rfl
      exact hz (.inl rfl)
    split at h
    · rename_i h1
      split at h'
      · rename_i h2
        rw [beq_iff_eq] at h1 h2
        have : decide (-y > 0) = decide (y > 0) := h1.symm.trans h2
        rw [decide_eq_decide] at this
        omega
      · omega
    · omega
theorem trA_small {y : Int} {a : List Bool} (ha : a.length = 7) (h0 : y ≠ 0) (h1 : -7 ≤ y) (h2 : y ≤ 7) (h : ¬ trA (-y) a = 1) : trA y a = 1 := by
  have hav : clause_abs.p (-y) = clause_abs.p y := av_neg y
  have hp : clause_abs.p y = if y < 0 then -y else y := av_pos (lit_av ⟨h0, by omega, by omega⟩)
  unfold trA at h ⊢
  rw [hav] at h
  have hz : ¬ (clause_abs.p y = 0 ∨ clause_abs.p y > (a.length : Int)) := by rw [hp, ha]; split <;> omega
  rw [if_neg hz] at h ⊢
  split at h
  · omega
  · rename_i hb
    rw [if_pos]
    rw [beq_iff_eq] at hb ⊢
    generalize a.getD (clause_abs.p y - 1).toNat false = q at hb ⊢
    have e : decide (-y > 0) = !decide (y > 0) := by
      by_cases hy : y > 0
      · rw [decide_eq_true hy, decide_eq_false (by omega)]; rfl
      · rw [decide_eq_false hy, decide_eq_true (by omega)]; rfl
    rw [e] at hb
    cases q <;> cases hd : decide (y > 0) <;> simp_all
theorem holdsA_iff (c : List Int) (a : List Bool) : holdsA c a = true ↔ ∃ x ∈ c, trA x a = 1 := by
  unfold holdsA
  rw [List.any_eq_true]
  constructor
  · rintro ⟨x, hx, h⟩
    have := trA_cases x a
    exact ⟨x, hx, by rw [decide_eq_true_eq] at h; omega⟩
  · rintro ⟨x, hx, h⟩
    exact ⟨x, hx, by rw [decide_eq_true_eq]; omega⟩
theorem fol_holds {X : List (List Int)} {c : List Int} (hF : Fol X c true) (hc : g7 c = true) {a : List Bool} (ha : a.length = 7) (hall : allA X a = true) : holdsA c a = true := by
  refine Classical.byContradiction fun hno => ?_
  have hno' : ∀ x ∈ c, ¬ trA x a = 1 := fun x hx h => hno ((holdsA_iff c a).mpr ⟨x, hx, h⟩)
  have h7 := (g7_iff c).mp hc
  have hgd : gd c = true := (gd_iff c).mpr fun x hx => by obtain ⟨h0, h1, h2⟩ := h7 x hx; exact ⟨h0, by omega, by omega⟩
  have hLit := (gd_iff c).mp hgd
  have hneg : ∀ y ∈ negs c, trA y a = 1 := fun y hy => by
    have hm := negs_mem.mp hy
    obtain ⟨h0, h1, h2⟩ := h7 _ hm
    exact trA_small ha (by omega) (by omega) (by omega) (hno' _ hm)
  have hcons : Cons (negs c) := fun x hx hn => trA_flip x a (hneg _ hn) (hneg _ hx)
  have h2 := cl2_lone (negs_lit hLit) hcons
  unfold Fol at hF
  rw [if_pos hgd] at hF
  obtain ⟨u, ok, hU, hok⟩ := hF
  unfold UnitsOut at hU
  rw [if_pos h2] at hU
  obtain ⟨r, hO, e1, _⟩ := hU
  cases r with
  | some T => rw [e1] at hok; cases hok
  | none =>
    obtain ⟨d, hd, hdd⟩ := hO
    obtain ⟨hm, _⟩ := cl2_ok h2
    have hV : ∀ y ∈ d, trA (-y) a = 1 := fun y hy => (hdd y hy).holds (fun x => trA x a = 1) (fun x hx => hneg x ((hm x).mp hx)) (fun c' hc' => (holdsA_iff c' a).mp (List.all_eq_true.mp hall c' hc')) (fun x h => trA_flip x a h)
    obtain ⟨y, hy, e⟩ := (holdsA_iff d a).mp (List.all_eq_true.mp hall d hd)
    exact trA_flip y a (hV y hy) e
theorem fol_mono {X X' : List (List Int)} {c : List Int} (h : ∀ d ∈ X, d ∈ X') (hF : Fol X c true) : Fol X' c true := by
  unfold Fol at hF ⊢
  by_cases hg : gd c = true
  · rw [if_pos hg] at hF ⊢
    obtain ⟨u, ok, hU, hok⟩ := hF
    refine ⟨[], false, ?_, rfl⟩
    have hok' : ok = false := by
      cases ok with
      | false => rfl
      | true => cases hok
    unfold UnitsOut at hU ⊢
    by_cases h2 : (cl2 (negs c)).2 = true
    · rw [if_pos h2] at hU ⊢
      obtain ⟨r, hO, e1, _⟩ := hU
      cases r with
      | some T => rw [e1] at hok'; cases hok'
      | none =>
        obtain ⟨d, hd, hdd⟩ := hO
        exact ⟨none, ⟨d, h d hd, fun y hy => (hdd y hy).mono h fun _ h => h⟩, rfl, fun _ => rfl, fun T e => (by cases e)⟩
    · rw [if_neg h2]
      exact ⟨rfl, rfl⟩
  · rw [if_neg hg] at hF; cases hF
theorem follows_not {W : World} {g : Nat} {X : List (List Int)} (hS : SR W g X) (hX : ClsOk X) (hXl : X.length ≤ 1000000) {A : Option Addr} {cc : Nat} {c : List Int} (hr : Kd.C (Kd.int .i64) W A c.length c) (hcc : c.length ≤ cc) (hsz : c.length + X.flatten.length ≤ 900000) (hF : ¬ Fol X c true) :
    Calls Try.prog 45 #[.pointer (some ⟨g, 0, none⟩), .slice A c.length cc] W fun e w' => e = .returned (.bool false) ∧ Below W.heap.size W w' := by
  refine (follows_calls hS hX hXl hr hcc hsz).mono ?_
  rintro e w' ⟨b', rfl, hB, hF'⟩
  cases b' with
  | true => exact absurd hF' hF
  | false => exact ⟨rfl, hB⟩
/-! The law. -/
theorem at_bools {w : World} {A : Option Addr} {xs : List (List Bool)} (h : Kd.C (Kd.slice 4 Kd.bool) w A xs.length xs) (i : Nat) (h1 : i < xs.length) : ∃ ad A0 c0, A = some ad ∧ w.cell? (ad.add i) = some (.slice A0 xs[i].length c0) ∧ xs[i].length ≤ c0 ∧ Kd.bool.C w A0 xs[i].length xs[i] := by
  obtain ⟨ad, c, e, _, hK, hc0⟩ := Kd.C_get h ([] : List Bool) (i : Int) (by omega) (by omega)
  rw [Int.toNat_natCast] at hK hc0
  have hg : xs.getD i [] = xs[i] := by simp [List.getD_eq_getElem?_getD, List.getElem?_eq_getElem h1]
  rw [hg] at hK
  have hc : ∀ j u, c[j]? = some u → w.cell? (ad.add (i * 1 + j)) = some u := hc0
  obtain ⟨A0, c0, rfl, l0, g0⟩ := hK
  exact ⟨ad, A0, c0, e, by have := hc 0 _ rfl; rwa [show i * 1 + 0 = i by omega] at this, l0, g0⟩
theorem more_ok {X : List (List Int)} (h : Clean X) {m : List Int} (hm : m.length ≤ 12) : Clean (if (cl2 m).2 = true then X ++ [(cl2 m).1] else X) ∧ (if (cl2 m).2 = true then X ++ [(cl2 m).1] else X).length ≤ X.length + 1 ∧ ∀ d ∈ X, d ∈ (if (cl2 m).2 = true then X ++ [(cl2 m).1] else X) := by
  split
  · rename_i hc
    refine ⟨fun c hc' => ?_, by simp, fun d hd => List.mem_append_left _ hd⟩
    rcases List.mem_append.mp hc' with h' | h'
    · exact h c h'
    · rw [List.mem_singleton] at h'
      subst h'
      rw [clean_id hc]
      exact ⟨rfl, rfl, by have := (cl2_ok hc).2.2.2.2.1; omega⟩
  · exact ⟨h, by omega, fun d hd => hd⟩
set_option maxHeartbeats 4000000 in
set_option maxRecDepth 100000 in
theorem holds_calls {w : World} {A Ac Am : Option Addr} {ca cc cm : Nat} {l : List S88} {c m : List Int} (hr : Kd.C k88 w A l.length l) (hca : l.length ≤ ca) (hrc : Kd.C (Kd.int .i64) w Ac c.length c) (hcc : c.length ≤ cc) (hrm : Kd.C (Kd.int .i64) w Am m.length m) (hcm : m.length ≤ cm) :
    Calls Try.prog 11 #[.slice A l.length ca, .slice Ac c.length cc, .slice Am m.length cm] w fun e w' => e = .returned (.bool true) ∧ Below w.heap.size w w' := by
  have haw := awake_calls w
  obtain ⟨kf, hkf⟩ := (few_ev l).rounds
  have hfc := fun W (hB : Below w.heap.size w W) => ferrulelaw22_few.calls kf A ca l (fewP l) W (Kd.C_below hr hB) hca hkf
  by_cases hf : fewP l = true
  case neg =>
    rw [Bool.eq_false_iff.mpr hf] at hfc
    go_enter Try.func11, Try.ntmps11
    go_wp2_with (first
      | (go_at_call 42; with_reducible refine haw.mono ?_; rintro e w1 ⟨rfl, hB1⟩)
      | (go_at_call 43; with_reducible refine (hfc _ hB1).mono ?_; rintro e w2 ⟨rfl, hD2⟩))
    go_ret
    exact ⟨rfl, hB1.trans (hD2.below.mono hB1.size)⟩
  case pos =>
    have hpl := fun W (hB : Below w.heap.size w W) => played_calls (w := W) (Kd.C_below hr hB) hca hf
    obtain ⟨hl30, hl12⟩ := few_iff hf
    have hcl := play_clean l hl12 l.length (Nat.le_refl _)
    have hlen := play_len l l.length (Nat.le_refl _)
    rw [List.take_of_length_le (Nat.le_refl _)] at hcl hlen
    rw [hf] at hfc
    clear hf hkf
    generalize playX l = X at *
    by_cases h12 : (c.length : Int) > 12
    case pos =>
      have h12' : (12 : Int) < (c.length : Int) := h12
      go_enter Try.func11, Try.ntmps11
      go_wp2_with (first
        | (go_at_call 42; with_reducible refine haw.mono ?_; rintro e w1 ⟨rfl, hB1⟩)
        | (go_at_call 43; with_reducible refine (hfc _ hB1).mono ?_; rintro e w2 ⟨rfl, hD2⟩))
      go_ret
      exact ⟨rfl, hB1.trans (hD2.below.mono hB1.size)⟩
    by_cases h13 : (m.length : Int) > 12
    case pos =>
      have h12' : ¬ (12 : Int) < (c.length : Int) := h12
      have h13' : (12 : Int) < (m.length : Int) := h13
      go_enter Try.func11, Try.ntmps11
      go_wp2_with (first
        | (go_at_call 42; with_reducible refine haw.mono ?_; rintro e w1 ⟨rfl, hB1⟩)
        | (go_at_call 43; with_reducible refine (hfc _ hB1).mono ?_; rintro e w2 ⟨rfl, hD2⟩))
      go_ret
      exact ⟨rfl, hB1.trans (hD2.below.mono hB1.size)⟩
    have h12' : ¬ (12 : Int) < (c.length : Int) := h12
    have h13' : ¬ (12 : Int) < (m.length : Int) := h13
    obtain ⟨kg, hkg⟩ := (refGoodV_ev c (by omega) 7).rounds
    have hgc := fun W (hB : Below w.heap.size w W) => ferruleref12_Good.calls kg Ac cc c 7 (g7 c) W (Kd.C_below hrc hB) hcc hkg
    by_cases hc7 : g7 c = true
    case neg =>
      rw [Bool.eq_false_iff.mpr hc7] at hgc
      go_enter Try.func11, Try.ntmps11
      go_wp2_with (first
        | (go_at_call 42; with_reducible refine haw.mono ?_; rintro e w1 ⟨rfl, hB1⟩)
        | (go_at_call 43; with_reducible refine (hfc _ hB1).mono ?_; rintro e w2 ⟨rfl, hD2⟩; have hBw2 := hB1.trans (hD2.below.mono hB1.size))
        | (go_at_call 37; with_reducible refine (hgc _ hBw2).mono ?_; rintro e w3 ⟨rfl, hD3⟩))
      go_ret
      exact ⟨rfl, hBw2.trans (hD3.below.mono hBw2.size)⟩
    rw [hc7] at hgc
    have hflat := hcl.flat
    have hXok := hcl.ok
    clear hkg
    go_enter Try.func11, Try.ntmps11
    go_wp2_with (first
      | (go_at_call 42; with_reducible refine haw.mono ?_; rintro e w1 ⟨rfl, hB1⟩)
      | (go_at_call 43; with_reducible refine (hfc _ hB1).mono ?_; rintro e w2 ⟨rfl, hD2⟩; have hBw2 := hB1.trans (hD2.below.mono hB1.size))
      | (go_at_call 37; with_reducible refine (hgc _ hBw2).mono ?_; rintro e w3 ⟨rfl, hD3⟩; have hBw3 := hBw2.trans (hD3.below.mono hBw2.size))
      | (go_at_call 44; with_reducible refine (hpl _ hBw3).mono ?_; rintro e w4 ⟨g, v, vx, rfl, hS4, hX4, hB4, hap4⟩; obtain ⟨Ax, cx, rfl, hcx, hCx⟩ := hX4.reads; have hBw4 := hBw3.trans (hB4.mono hBw3.size)))
    have hSR4 := hS4.sr
    go_loopw [10] (fun v10 wr => ∃ i : Nat, i ≤ X.length ∧ v10 = .int .i64 i ∧ Below w4.heap.size w4 wr)
      (fun v10 _ => X.length - (intOf v10).toNat)
    case atStart => exact ⟨0, Nat.zero_le _, rfl, Below.refl _ _⟩
    case round =>
      obtain ⟨i, hi0, rfl, hB⟩ := hrel
      have hBwr := hBw4.trans (hB.mono hBw4.size)
      by_cases hi1 : i < X.length
      · have hiI : (i : Int) < (X.length : Int) := by omega
        obtain ⟨ad, A1, c1, rfl, hcell1, hc1, hR1⟩ := at_L1 (Kd.C_below hCx hB) (i : Int) (by omega) hiI
        rw [Int.toNat_natCast] at hcell1
        rw [rdL_nat X i hi1] at hcell1 hc1 hR1
        have hd12 := (hcl _ (List.getElem_mem hi1)).2.2
        generalize X[i] = d at *
        obtain ⟨kd, hkd⟩ := (refGoodV_ev d (by omega) 7).rounds
        have hgd := ferruleref12_Good.calls kd A1 c1 d 7 (g7 d) wr hR1 hc1 hkd
        clear hkd
        cases hq : g7 d with
        | true =>
          rw [hq] at hgd
          go_wp2_with (go_at_call 37; with_reducible refine hgd.mono ?_; rintro e w5 ⟨rfl, hD5⟩)
          exact ⟨⟨i + 1, hi1, rfl, hB.trans (hD5.below.mono hB.size)⟩, by simp [intOf]; omega⟩
        | false =>
          rw [hq] at hgd
          go_wp2_with (go_at_call 37; with_reducible refine hgd.mono ?_; rintro e w5 ⟨rfl, hD5⟩)
          go_ret
          exact ⟨rfl, hBwr.trans (hD5.below.mono hBwr.size)⟩
      · have hiI : ¬ (i : Int) < (X.length : Int) := by omega
        have hSr := hS4.below hB
        by_cases hft : Fol X c true
        case neg =>
          have hfo := follows_not hSr.sr hXok (by omega) (Kd.C_below hrc hBwr) hcc (by omega) hft
          go_wp2_with (go_at_call 45; with_reducible refine hfo.mono ?_; rintro e w5 ⟨rfl, hB5⟩)
          go_ret
          exact ⟨rfl, hBwr.trans (hB5.mono hBwr.size)⟩
        case pos =>
          have hfo := follows_is hSr.sr hXok (by omega) (Kd.C_below hrc hBwr) hcc (by omega) hft
          obtain ⟨km, hkm⟩ := (models_ev X (by omega) (fun d hd => by have := (hcl d hd).2.2; omega) 7 (by decide) 7 [] rfl).rounds
          have hmod := fun W (hB : Below w4.heap.size w4 W) => ferruleref12_Models.calls km Ax cx X 7 none 0 [] ((enumA 7 []).filter (allA X)) W (Kd.C_below hCx hB) hcx (Kd.C_nil Kd.bool W) (Nat.le_refl _) hkm
          have hM : ∀ a ∈ (enumA 7 []).filter (allA X), holdsA c a = true := fun a ha => by
            obtain ⟨h1, h2⟩ := List.mem_filter.mp ha
            exact fol_holds hft hc7 (by have := enumA_size 7 [] a h1; simpa using this) h2
          have hMl : ((enumA 7 []).filter (allA X)).length ≤ 128 := by
            have := List.length_filter_le (allA X) (enumA 7 [])
            rw [enumA_len] at this
            exact this
          have hM7 : ∀ a ∈ (enumA 7 []).filter (allA X), a.length = 7 := fun a ha => by have := enumA_size 7 [] a (List.mem_filter.mp ha).1; simpa using this
          clear hkm
          generalize (enumA 7 []).filter (allA X) = M at *
          simp only [List.length_nil] at hmod
          go_wp2_with (first
            | (go_at_call 45; with_reducible refine hfo.mono ?_; rintro e w5 ⟨rfl, hB5⟩; have hB45 := hB.trans (hB5.mono hB.size); have hmo5 := hmod _ hB45)
            | (go_at_call 32; with_reducible refine hmo5.mono ?_; rintro e w6 ⟨v6, rfl, hN6, hB6⟩; obtain ⟨A6, c6, rfl⟩ := Kd.N_slice hN6; have hRM := Kd.N_reads' hN6; have hB46 := hB45.trans (hB6.mono hB45.size)))
          have hCM := hRM.2.2
          have hcM := hRM.2.1
          have hS6 := hS4.below hB46
          have hBw6 := hBw4.trans (hB46.mono hBw4.size)
          have had := fun W (hB : Below w6.heap.size w6 W) => add_calls (w0 := w3) (hS6.below hB) (by omega) (hB4.trans ((hB46.trans (hB.mono hB46.size)).mono hB4.size)) (Nat.le_trans hB4.size (Nat.le_trans hB46.size hB.size)) (Kd.C_below hrm (hBw6.trans (hB.mono hBw6.size))) hcm (by omega)
          obtain ⟨hY1, hY2, hY3⟩ := more_ok hcl (m := m) (by omega)
          have hYf := fol_mono hY3 hft
          generalize (if (cl2 m).2 = true then X ++ [(cl2 m).1] else X) = Y at *
          generalize (cl2 m).2 = okm at *
          have hYok := hY1.ok
          have hYflat := hY1.flat
          have hfo2 := fun W (hS : SR W g Y) (hB : Below w.heap.size w W) => follows_is hS hYok (by omega) (Kd.C_below hrc hB) hcc (by omega) hYf
          go_loopw [12] (fun v12 wq => ∃ j : Nat, j ≤ M.length ∧ v12 = .int .i64 j ∧ Below w6.heap.size w6 wq)
            (fun v12 _ => M.length - (intOf v12).toNat)
          case atStart => exact ⟨0, Nat.zero_le _, rfl, Below.refl _ _⟩
          case round =>
            obtain ⟨j, hj0, rfl, hBj⟩ := hrel
            by_cases hj1 : j < M.length
            · have hjI : (j : Int) < (M.length : Int) := by omega
              obtain ⟨ad, A1, c1, rfl, hcell1, hc1, hR1⟩ := at_bools (Kd.C_below hCM hBj) j hj1
              have hMj := hM _ (List.getElem_mem hj1)
              obtain ⟨kh, hkh⟩ := (holdsA_ev c M[j] (by omega)).rounds
              rw [hMj] at hkh
              clear hMj
              generalize M[j] = a at *
              have hho := ferruleref12_Holds.calls kh Ac cc c A1 c1 a true wr (Kd.C_below hrc (hBw6.trans (hBj.mono hBw6.size))) hcc hR1 hc1 hkh
              clear hkh
              go_wp2_with (go_at_call 40; with_reducible refine hho.mono ?_; rintro e w7 ⟨rfl, hD7⟩)
              exact ⟨⟨j + 1, hj1, rfl, hBj.trans (hD7.below.mono hBj.size)⟩, by simp [intOf]; omega⟩
            · have hjI : ¬ (j : Int) < (M.length : Int) := by omega
              have ha7 := had wr hBj
              go_wp2_with (first
                | (go_at_call 46; with_reducible refine ha7.mono ?_; rintro e w7 ⟨v7, rfl, hS7, hB7, hK7, hs7⟩; have hBw7 := hBw3.trans (hB7.mono hBw3.size); have hfo7 := hfo2 w7 hS7.sr hBw7)
                | (go_at_call 45; with_reducible refine hfo7.mono ?_; rintro e w8 ⟨rfl, hB8⟩))
              go_ret
              exact ⟨rfl, hBw7.trans (hB8.mono hBw7.size)⟩
end Go.Proofs.Ytohgjbkiemnfnaa.Rup
