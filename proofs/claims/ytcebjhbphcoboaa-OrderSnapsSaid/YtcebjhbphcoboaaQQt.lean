/- A solver in which literals were asserted as far as they agree (ferrulelaw15.filled). A walk by hand. (and what follows from it) -/
import Derived.Test.YtcebjhbphcoboaaQq
import Derived.Test.YtcebjhbphcoboaaXn34
import Derived.Test.YtcebjhbphcoboaaXn38
namespace Go.Proofs.Ytcebjhbphcoboaa.Ato
open Go Go.RowKit Go.Proofs.Ytcebjhbphcoboaa.X Go.Proofs.Ytcebjhbphcoboaa.Hlp Go.Proofs.YtcebjhbphcoboaaW.PrintWords Go.Proofs.YtcebjhbphcoboaaW.PrintLast Go.Proofs.YtcebjhbphcoboaaW.PrintMore Go.Proofs.Ytcebjhbphcoboaa.Aid Go.Proofs.Ytcebjhbphcoboaa.Clean12
attribute [local go_sem] max2_int min2_int max_two min_two
set_option linter.unusedVariables false
set_option linter.unusedSimpArgs false
/-- The literals behind one more assertion; behind all. -/
def asL (l L : List Int) (x : Int) : List Int := if asE l L x = 0 then L ++ [x] else L
def fillL (l : List Int) : List Int → List Int → List Int
  | L, [] => L
  | L, x :: r => fillL l (asL l L x) r
/-- What a solver's literals are: literals, of each package some rank is allowed. -/
def Agree (l L : List Int) : Prop := (∀ x ∈ L, litOk l x = true) ∧ ∀ p : Int, alw l p (ofL l p L) ≠ []
theorem agree_nil (l : List Int) : Agree l [] := by
  refine ⟨fun x h => (by cases h), fun p => ?_⟩
  have h : (-1 : Int) ∈ alw l p (ofL l p []) := by
    unfold alw alwK
    rw [List.mem_filter]
    refine ⟨?_, by simp [ofL]⟩
    unfold ranks
    rw [List.mem_map]
    exact ⟨0, by simp, by simp⟩
  intro e
  rw [e] at h
  cases h
theorem agree_as {l L : List Int} (h : Agree l L) (x : Int) : Agree l (asL l L x) := by
  unfold asL
  split
  · rename_i he
    unfold asE at he
    split at he
    · cases he
    · rename_i hok
      split at he
      · cases he
      · split at he
        · cases he
        · split at he
          · cases he
          · rename_i hal
            refine ⟨fun y hy => ?_, fun p => ?_⟩
            · rw [List.mem_append] at hy
              rcases hy with hy | hy
              · exact h.1 y hy
              · simp at hy
                subst hy
                simpa using hok
            · have e : ofL l p (L ++ [x]) = if (litA l x).f1 == p then ofL l p L ++ [x] else ofL l p L := by
                unfold ofL
                rw [List.filter_append]
                by_cases hp : ((litA l x).f1 == p) = true
                · rw [if_pos hp]; simp [List.filter_cons, hp]
                · rw [if_neg hp]; simp [List.filter_cons, hp]
              rw [e]
              by_cases hp : ((litA l x).f1 == p) = true
              · rw [if_pos hp]
                have hp' : (litA l x).f1 = p := by simpa using hp
                unfold asM at hal
                rw [hp'] at hal
                exact hal
              · rw [if_neg hp]; exact h.2 p
  · exact h
theorem fillL_snoc (l : List Int) : ∀ (r L : List Int) (x : Int), fillL l L (r ++ [x]) = asL l (fillL l L r) x
  | [], _, _ => rfl
  | y :: r, L, x => by simp only [List.cons_append, fillL]; exact fillL_snoc l r _ x
theorem fillL_take (l lits : List Int) (k : Nat) (hk : k < lits.length) : fillL l [] (lits.take (k + 1)) = asL l (fillL l [] (lits.take k)) lits[k] := by
  rw [List.take_succ_eq_append_getElem hk, fillL_snoc]
theorem fillL_agree (l : List Int) : ∀ (r L : List Int), Agree l L → Agree l (fillL l L r)
  | [], _, h => h
  | x :: r, _, h => fillL_agree l r _ (agree_as h x)
theorem asL_len (l L : List Int) (x : Int) : (asL l L x).length ≤ L.length + 1 := by unfold asL; split <;> simp
theorem fillL_len (l : List Int) : ∀ (r L : List Int), (fillL l L r).length ≤ L.length + r.length
  | [], _ => by simp [fillL]
  | x :: r, L => by
    have h1 := fillL_len l r (asL l L x)
    have h2 := asL_len l L x
    simp only [fillL, List.length_cons]; omega
theorem agree_in {l L : List Int} (ht : tot l ≤ 16777216) (h : Agree l L) : In64 L := fun x hx => litOk_in ht (h.1 x hx)
theorem assert_calls {W0 : World} {b0 g : Nat} {l : List Int} {w : World} {base gs : Nat} {lv : Value} {L : List Int} (h : SO W0 b0 g l w base gs lv L) (x : Int) (hxx : -9223372036854775808 ≤ x ∧ x ≤ 9223372036854775807) (hs : Szs l) (hL : L.length ≤ 100) (ha : Agree l L) :
    Calls Try.prog 42 #[.pointer (some ⟨gs, 0, none⟩), .int .i64 x] w fun e w' => ∃ v lv', e = .returned (.tuple #[v, .int .i64 (asE l L x)]) ∧ SO W0 b0 g l w' base gs lv' (asL l L x) ∧ Below base w w' ∧ KeepBut w w' gs lv.ownBlock ∧ (lv'.ownBlock = lv.ownBlock ∨ ∃ q, lv'.ownBlock = some q ∧ w.heap.size ≤ q) := by
  have hx := agree_in hs.2.2 ha
  have hbs : base ≤ w.heap.size := by
    obtain ⟨_, _, _, h4, h5, _⟩ := h
    have := blk_lt h4
    omega
  have same : ∀ w', Below w.heap.size w w' → SO W0 b0 g l w' base gs lv L ∧ Below base w w' ∧ KeepBut w w' gs lv.ownBlock ∧ (lv.ownBlock = lv.ownBlock ∨ ∃ q, lv.ownBlock = some q ∧ w.heap.size ≤ q) := fun w' hb => ⟨h.below hb, hb.mono hbs, ⟨hb.size, fun i hi _ _ => hb.block i hi⟩, .inl rfl⟩
  by_cases hno : litOk l x = false ∨ x ∈ L ∨ -x ∈ L
  · have he : asE l L x ≠ 0 := by
      unfold asE
      split
      · decide
      · split
        · decide
        · rename_i h1 h2
          rw [if_pos (by rcases hno with h | h | h; (exact absurd h h1); (exact absurd h h2); exact h)]; decide
    have hL' : asL l L x = L := by unfold asL; rw [if_neg he]
    rw [hL']
    exact (assert_no h x hxx hs hL hx hno).mono fun e w' ⟨he, hb⟩ => ⟨_, lv, he, same w' hb⟩
  · have hok : litOk l x = true := by
      cases hk : litOk l x with
      | true => rfl
      | false => exact absurd (.inl hk) hno
    have hm : x ∉ L := fun h => hno (.inr (.inl h))
    have hn : -x ∉ L := fun h => hno (.inr (.inr h))
    by_cases hal : alw l (litA l x).f1 (asM l L x) = []
    · have he : asE l L x = 18 := by unfold asE; rw [if_neg (by rw [hok]; decide), if_neg hm, if_neg hn, if_pos hal]
      have hL' : asL l L x = L := by unfold asL; rw [if_neg (by rw [he]; decide)]
      rw [hL', he]
      exact (assert_conf h x hs hL hx hok hm hn hal).mono fun e w' ⟨v, he, _, hb⟩ => ⟨v, lv, he, same w' hb⟩
    · have he : asE l L x = 0 := by unfold asE; rw [if_neg (by rw [hok]; decide), if_neg hm, if_neg hn, if_neg hal]
      have hL' : asL l L x = L ++ [x] := by unfold asL; rw [if_pos he]
      rw [hL', he]
      exact (assert_ok h x hs hL hx hok hm hn hal).mono fun e w' ⟨lv', he, hS, hb⟩ => ⟨_, lv', he, hS, hb⟩
theorem own_keep {W W' : World} {base n : Nat} {v : Value} {xs : List Value} (h : W.ownsRow base 3 1 v n xs) (hk : ∀ q, v.ownBlock = some q → W'.heap[q]? = W.heap[q]?) : W'.ownsRow base 3 1 v n xs := by
  refine ⟨h.1, ?_⟩
  rcases h.2 with h2 | ⟨b, cap, cur, rfl, h3, h4, h5⟩
  · exact .inl h2
  · exact .inr ⟨b, cap, cur, rfl, h3, (hk b rfl).trans h4, h5⟩
theorem SO.grown {W0 : World} {b0 g : Nat} {l : List Int} {W W' : World} {base gs : Nat} {lv : Value} {L : List Int} {row : Option Nat} (h : SO W0 b0 g l W base gs lv L) (hg : W.grownBy W' row) (h1 : some gs ≠ row) (h2 : lv.ownBlock = none ∨ lv.ownBlock ≠ row) (h3 : ∀ q, row = some q → W0.heap.size ≤ q) : SO W0 b0 g l W' base gs lv L := by
  obtain ⟨k1, k2, k3, k4, k5, k6⟩ := h
  exact ⟨k1, k2.grown hg k2.size h3, k3, blk_grown k4 hg h1, k5, k6.kept hg h2⟩
set_option maxHeartbeats 2000000 in
set_option maxRecDepth 100000 in
theorem filled_calls (A0 : Option Addr) (c0 : Nat) (l : List Int) (A1 : Option Addr) (c1 : Nat) (lits : List Int) (w : World) (hr0 : Kd.C (Kd.int .i64) w A0 l.length l) (hc0 : l.length ≤ c0) (hr1 : Kd.C (Kd.int .i64) w A1 lits.length lits) (hc1 : lits.length ≤ c1) (hs : Szs l) (hlits : lits.length ≤ 20) (hx : ∀ x ∈ lits, -9223372036854775808 ≤ x ∧ x ≤ 9223372036854775807) :
    Calls Try.prog 35 #[.slice A0 l.length c0, .slice A1 lits.length c1] w fun e w' => ∃ W0 b0 g base gs lv v, e = .returned (.tuple #[.pointer (some ⟨gs, 0, none⟩), v]) ∧ w.heap.size ≤ base ∧ SO W0 b0 g l w' base gs lv (fillL l [] lits) ∧ w'.ownsRow w.heap.size 3 1 v (fillL l [] lits).length (ints (fillL l [] lits)) ∧ Below w.heap.size w w' := by
  have hmk := made A0 c0 l w hr0 hc0 hs.1 hs.2.1 hs.2.2
  obtain ⟨i0, hi, hz0, hz1, hz2⟩ := info_parts info3'
  go_enter Try.func35, Try.ntmps35
  go_wp2_with (first
    | (go_at_call 40; with_reducible refine hmk.mono ?_; rintro e w1 ⟨g, rfl, hT, hB1⟩)
    | (go_at_call 39; with_reducible refine (newS_calls hT).mono ?_; rintro e w2 ⟨gs, rfl, hS2, hB2⟩; have hBw2 := hB1.trans (hB2.mono hB1.size)))
  go_loopw [7, 8] (fun v7 v8 wr => ∃ (k : Nat) (lv : Value), k ≤ lits.length ∧ v8 = .int .i64 k ∧ SO w1 w.heap.size g l wr w1.heap.size gs lv (fillL l [] (lits.take k)) ∧ wr.ownsRow w.heap.size 3 1 v7 (fillL l [] (lits.take k)).length (ints (fillL l [] (lits.take k))) ∧ (∀ q, v7.ownBlock = some q → w1.heap.size ≤ q ∧ lv.ownBlock ≠ some q) ∧ Below w.heap.size w wr)
    (fun _ v8 _ => lits.length - (intOf v8).toNat)
  case atStart => exact ⟨0, _, Nat.zero_le _, rfl, by simpa [fillL] using hS2, World.ownsRow_nil _ _ _ _, (fun q e => by simp [Value.ownBlock] at e), hBw2⟩
  case round =>
    obtain ⟨k, lv, hk, rfl, hS, hown, hdj, hB⟩ := hrel
    obtain ⟨p7, c7, rfl⟩ := Hlp.own_slice hown
    by_cases hk1 : k < lits.length
    · have hkI : (k : Int) < (lits.length : Int) := by omega
      obtain ⟨ad, rfl, hcellw⟩ := Kd.at_int hr1 (k : Int) (by omega) hkI
      rw [Int.toNat_natCast, show rd lits (k : Int) = lits[k] from by simp [rd, hk1]] at hcellw
      have hcell0 := cell_below' hcellw hB
      have hxk := hx _ (List.getElem_mem hk1)
      have hag := fillL_agree l (lits.take k) [] (agree_nil l)
      have hfl := fillL_len l (lits.take k) []
      rw [List.length_take] at hfl
      have hft := fillL_take l lits k hk1
      have hXl : (fillL l [] (lits.take k)).length ≤ 20 := by simp at hfl; omega
      have has := assert_calls hS lits[k] hxk hs (by omega) hag
      have hgs : some gs ≠ (Value.slice p7 (fillL l [] (lits.take k)).length c7).ownBlock := Hlp.own_ne hown hS.2.2.2.1 (by simp)
      clear hfl hag
      unfold asL at has hft
      generalize fillL l [] (lits.take k) = X at *
      generalize lits[k] = x at *
      have hlt7 := fun q e => (hown.lt q e).2
      have hkp : ∀ W', KeepBut wr W' gs lv.ownBlock → W'.ownsRow w.heap.size 3 1 (.slice p7 X.length c7) X.length (ints X) := fun W' hK3 => own_keep hown (fun q e => hK3.2 q (hlt7 q e) (fun h => hgs (by subst h; exact e.symm)) (fun h => (hdj q e).2 h.symm))
      by_cases hE : asE l X x = 0
      · rw [if_pos hE] at has hft
        rw [hE] at has
        have HF := Aside0.mk hft
        clear hft hE
        go_wp2_with (first
          | (go_at_call 42; with_reducible refine has.mono ?_; rintro e w3 ⟨v3, lv3, rfl, hS3, hB3, hK3, hO3⟩; have hBw3 := hB.trans (hB3.mono hB1.size); have hcell3 := cell_below' hcellw hBw3; have hown3 := hkp _ hK3)
          | (at_builtin; refine wpList_append_own_at _ rfl _ _ 46 rfl w.heap.size 3 i0 (.int .i64 0) 1 8 Try.underlying46 hi hz0 hz1 hz2 rfl (by decide) _ _ _ rfl (hown3.alloc _) ⟨w3.heap.size, 0, none⟩ 1 1 [.int .i64 x] rfl rfl (cell_one_new _ _ _) (by simp [Value.oneCell']) (by unfold maxLen; omega) (by omega) (by have := hBw3.size; simp; omega) ?_; intro v4 w4 hown4 hgrow4 hnil4 hblk4))
        have hlv3 : lv3.ownBlock = none ∨ lv3.ownBlock ≠ (Value.slice p7 X.length c7).ownBlock := by
          cases h3 : lv3.ownBlock with
          | none => exact .inl rfl
          | some q =>
            refine .inr fun e => ?_
            rcases hO3 with h | ⟨q', h, hq⟩
            · exact (hdj q e.symm).2 (by rw [← h, h3])
            · rw [h3] at h
              obtain rfl := Option.some.inj h
              have := hlt7 _ e.symm
              omega
        have hsz3 := hBw3.size
        have hszk := hK3.1
        refine ⟨⟨k + 1, lv3, by omega, rfl, ?_, ?_, ?_, ?_⟩, by simp [intOf]; omega⟩
        · rw [HF.out]
          exact (hS3.below ((Below.refl _ _).alloc (Nat.le_refl _) _)).grown hgrow4 hgs hlv3 (fun q e => (hdj q e).1)
        · rw [HF.out]; exact int_app hown4
        · intro q e
          replace e : v4.ownBlock = some q := e
          rcases hblk4 with h | h
          · rw [h] at e
            refine ⟨(hdj q e).1, fun h' => ?_⟩
            rcases hlv3 with h3 | h3
            · rw [h3] at h'; cases h'
            · exact h3 (h'.trans e.symm)
          · rw [h] at e
            obtain rfl := Option.some.inj e
            have hl3 := fun q e => (hS3.2.2.2.2.2.lt q e).2
            refine ⟨by have := hB1.size; have := hBw2.size; have := hS3.2.1.size; simp; omega, fun h' => ?_⟩
            have := hl3 _ h'
            simp at this
            omega
        · exact (hBw3.alloc hBw3.size _).grown hgrow4 (by simp; omega) (fun q e => (hown.lt q e).1)
      · rw [if_neg hE] at has hft
        have HF := Aside0.mk hft
        have hEf : (asE l X x == 0) = false := beq_eq_false_iff_ne.mpr hE
        clear hft hE
        generalize asE l X x = E at *
        go_wp2_with (first
          | (go_at_call 42; with_reducible refine has.mono ?_; rintro e w3 ⟨v3, lv3, rfl, hS3, hB3, hK3, hO3⟩; have hBw3 := hB.trans (hB3.mono hB1.size); have hcell3 := cell_below' hcellw hBw3; have hown3 := hkp _ hK3))
        refine ⟨⟨k + 1, lv3, by omega, rfl, ?_, ?_, ?_, hBw3⟩, by simp [intOf]; omega⟩
        · rw [HF.out]; exact hS3
        · rw [HF.out]; exact hown3
        · intro q e
          refine ⟨(hdj q e).1, fun h' => ?_⟩
          rcases hO3 with h | ⟨q', h, hq⟩
          · exact (hdj q e).2 (by rw [← h, h'])
          · rw [h'] at h
            obtain rfl := Option.some.inj h
            have := hlt7 _ e
            omega
    · have hkI : ¬ (k : Int) < (lits.length : Int) := by omega
      obtain rfl : k = lits.length := by omega
      rw [List.take_length] at hS hown
      go_wp2
      go_ret2
      exact ⟨_, _, _, _, _, _, _, rfl, hB1.size, hS, hown, hB⟩
end Go.Proofs.Ytcebjhbphcoboaa.Ato
namespace Go.Proofs.Ytcebjhbphcoboaa.Ato
open Go Go.RowKit Go.Proofs.Ytcebjhbphcoboaa.X Go.Proofs.Ytcebjhbphcoboaa.Hlp Go.Proofs.YtcebjhbphcoboaaW.PrintWords Go.Proofs.YtcebjhbphcoboaaW.PrintLast Go.Proofs.YtcebjhbphcoboaaW.PrintMore Go.Proofs.Ytcebjhbphcoboaa.Aid Go.Proofs.Ytcebjhbphcoboaa.Clean12
set_option linter.unusedVariables false
set_option linter.unusedSimpArgs false
theorem all_mem {l : List Int} : ∀ k, k ≤ l.length → ∀ a ∈ allA l k, 0 ≤ a.f1 ∧ a.f1 < (k : Int) := by
  intro k
  induction k with
  | zero => intro _ a ha; simp [allA] at ha
  | succ k ih =>
    intro hk a ha
    rw [allA, List.mem_append] at ha
    rcases ha with ha | ha
    · have := ih (by omega) a ha; omega
    · unfold blkA lowA eqA at ha
      simp only [List.mem_append, List.mem_map, List.mem_singleton] at ha
      rcases ha with (rfl | ⟨i, _, rfl⟩) | ⟨i, _, rfl⟩ <;> (simp only []; omega)
theorem lit_at {l : List Int} (hn : ∀ n ∈ l, 0 ≤ n) {x : Int} (h : litOk l x = true) : (allA l l.length)[x.natAbs - 1]? = some (litA l x) := by
  have hk := of_decide_eq_true h
  have hl := allA_len hn l.length (Nat.le_refl _)
  rw [List.take_length] at hl
  have hlt : x.natAbs - 1 < (allA l l.length).length := by omega
  unfold litA
  rw [if_pos h, List.getElem?_eq_getElem hlt, List.getD, List.getElem?_eq_getElem hlt]; rfl
theorem alw_head {l L : List Int} {p : Int} (h : alw l p L ≠ []) : -1 ≤ (alw l p L).headD 0 ∧ (alw l p L).headD 0 < (((sizeP l p).toNat : Nat) : Int) ∧ ∀ y ∈ L, agree l ((alw l p L).headD 0) y = true := by
  cases hR : alw l p L with
  | nil => exact absurd hR h
  | cons r R =>
    have hm : r ∈ alw l p L := by rw [hR]; exact List.mem_cons_self
    unfold alw alwK at hm
    rw [List.mem_filter] at hm
    obtain ⟨h1, h2⟩ := hm
    unfold ranks at h1
    rw [List.mem_map] at h1
    obtain ⟨i, hi, he⟩ := h1
    rw [List.mem_range] at hi
    refine ⟨?_, ?_, fun y hy => List.all_eq_true.mp h2 y hy⟩
    · show -1 ≤ r; omega
    · show r < _; omega
theorem alwP_ne {l X : List Int} (ha : Agree l X) (p : Nat) (hp : p < l.length) : alwP l X (p : Int) ≠ [] := by
  unfold alwP
  rw [if_pos ⟨by omega, by omega⟩]
  exact ha.2 _
theorem snap_at (l X : List Int) (p : Nat) (hp : p < l.length) : (snapK l X l.length).getD p 0 = (alw l (p : Int) (ofL l (p : Int) X)).headD 0 := by
  unfold snapK
  rw [List.getD, List.getElem?_map, List.getElem?_range hp]
  simp only [Option.map_some, Option.getD_some]
  unfold alwP
  rw [if_pos ⟨by omega, by omega⟩]
theorem snap_ok {l X : List Int} (hn : ∀ n ∈ l, 0 ≤ n) (ha : Agree l X) : outL l (snapK l X l.length) = tr l (snapK l X l.length) l.length := by
  unfold outL
  refine if_pos ⟨snapK_len l X l.length, fun p hp => ?_⟩
  unfold okc
  rw [snap_at l X p hp]
  obtain ⟨h1, h2, _⟩ := alw_head (ha.2 (p : Int))
  have hs : sizeP l (p : Int) = l.getD p 0 := by unfold sizeP; rw [if_pos ⟨by omega, by omega⟩, Int.toNat_natCast]
  have := getD_nonneg hn p hp
  rw [hs] at h2
  omega
/-- Each literal that was asserted is true of what is snapped. -/
theorem snap_true {l X : List Int} (hn : ∀ n ∈ l, 0 ≤ n) (ha : Agree l X) {x : Int} (hx : x ∈ X) : (tr l (snapK l X l.length) l.length)[x.natAbs - 1]? = some (decide (0 < x)) := by
  have hok := ha.1 x hx
  have hat := lit_at hn hok
  rw [← map_allA, List.getElem?_map, hat]
  have hm := all_mem l.length (Nat.le_refl _) (litA l x) (List.mem_of_getElem? hat)
  obtain ⟨p, hp⟩ : ∃ p : Nat, (litA l x).f1 = (p : Int) := ⟨(litA l x).f1.toNat, by omega⟩
  have hpl : p < l.length := by omega
  obtain ⟨_, _, hag⟩ := alw_head (ha.2 (p : Int))
  have h3 := hag x (List.mem_filter.mpr ⟨hx, by rw [hp]; simp⟩)
  unfold agree at h3
  have h4 : tr1 (litA l x) ((alw l (p : Int) (ofL l (p : Int) X)).headD 0) = decide (0 < x) := by simpa using h3
  rw [← snap_at l X p hpl] at h4
  simp only [Option.map_some, Option.some.injEq]
  rw [← h4]
  unfold isP tr1
  rw [hp, rd_getD]
theorem truth_one (x : Int) (a : List Bool) (h0 : 1 ≤ x.natAbs) (h1 : x.natAbs ≤ 16777216) (h2 : a[x.natAbs - 1]? = some (decide (0 < x))) : ∃ k, ferruleref12_Truth.f k x a = some 1 := by
  have hlt := (List.getElem?_eq_some_iff.mp h2).1
  have hv : Ev (fun k => ferruleref12_Var.f k x) (x.natAbs : Int) := by
    unfold ferruleref12_Var.f
    refine ev_neg (by omega) ?_
    refine Ev.step (fun k => by rw [ferruleref12_Var.j0]) (ev_neg (by simp; omega) ?_)
    by_cases hx : x < 0
    · refine ev_pos hx (ev_now ?_)
      rw [wrap64_in (by omega) (by omega)]; omega
    · exact ev_neg hx (ev_now (by omega))
  have h : Ev (fun k => ferruleref12_Truth.f k x a) 1 := by
    unfold ferruleref12_Truth.f
    refine ev_bind hv (ev_neg (by omega) ?_)
    have hw : wrap64 ((x.natAbs : Int) - 1) = ((x.natAbs - 1 : Nat) : Int) := by rw [wrap64_in (by omega) (by omega)]; omega
    refine Ev.step (fun k => by rw [ferruleref12_Truth.j0]) (ev_neg (by simp; omega) (ev_pos (by rw [hw]; omega) (ev_pos (by rw [hw]; omega) (ev_pos ?_ (Ev.now _)))))
    rw [hw]
    unfold rdOf
    rw [Int.toNat_natCast, List.getD, h2]
    simp
  exact h.rounds
theorem small_l0 (l : List Int) (hl : l.length ≤ 4) : ∀ d i : Nat, l.length - i = d → i ≤ l.length → ∃ b, Ev (fun k => ferrulelaw15_small.l0 k l (i : Int)) b ∧ (b = true → ∀ j (h : j < l.length), i ≤ j → 0 ≤ l[j] ∧ l[j] ≤ 5) := by
  intro d
  induction d with
  | zero => exact fun i hd hi => ⟨true, Ev.step (fun k => by rw [ferrulelaw15_small.l0]) (ev_neg (by omega) (Ev.now _)), fun _ j h hj => by omega⟩
  | succ d ih =>
    intro i hd hi
    have hlt : i < l.length := by omega
    obtain ⟨b, hb, hp⟩ := ih (i + 1) (by omega) (by omega)
    have hb' : Ev (fun k => ferrulelaw15_small.l0 k l (wrap64 ((i : Int) + 1))) b := by
      rw [wrap64_in (by omega) (by omega), show (i : Int) + 1 = ((i + 1 : Nat) : Int) by omega]; exact hb
    by_cases h1 : l[i] < 0
    · refine ⟨false, Ev.step (fun k => by rw [ferrulelaw15_small.l0]) (ev_pos (by omega) (ev_pos (by omega) ?_)), fun h => by cases h⟩
      rw [rd_nat l i hlt]; exact ev_pos h1 (Ev.now _)
    · by_cases h2 : l[i] > 5
      · refine ⟨false, Ev.step (fun k => by rw [ferrulelaw15_small.l0]) (ev_pos (by omega) (ev_pos (by omega) ?_)), fun h => by cases h⟩
        rw [rd_nat l i hlt]; exact ev_neg h1 (ev_pos h2 (Ev.now _))
      · refine ⟨b, Ev.step (fun k => by rw [ferrulelaw15_small.l0]) (ev_pos (by omega) (ev_pos (by omega) ?_)), fun h j hj hij => ?_⟩
        · rw [rd_nat l i hlt]; exact ev_neg h1 (ev_neg h2 hb')
        · rcases Nat.eq_or_lt_of_le hij with rfl | h3
          · omega
          · exact hp h j hj h3
theorem tot_small5 : ∀ (l : List Int), (∀ n ∈ l, 0 ≤ n ∧ n ≤ 5) → tot l ≤ 10 * l.length
  | [], _ => by simp [tot]
  | a :: r, h => by
    have h1 := h a (by simp)
    have h2 := tot_small5 r fun n hn => h n (by simp [hn])
    simp only [tot, List.map_cons, List.sum_cons, wd, List.length_cons] at *
    omega
theorem small15_ev (l : List Int) : ∃ k b, ferrulelaw15_small.f k l = some b ∧ (b = true → Szs l ∧ l.length ≤ 4) := by
  by_cases hl : l.length ≤ 4
  · obtain ⟨b, hb, hp⟩ := small_l0 l hl _ 0 rfl (Nat.zero_le _)
    obtain ⟨k, hk⟩ := hb.rounds
    refine ⟨k, b, by unfold ferrulelaw15_small.f; rw [if_neg (by omega)]; exact hk, fun h => ?_⟩
    have hall : ∀ n ∈ l, 0 ≤ n ∧ n ≤ 5 := fun n hn => by
      obtain ⟨j, hj, rfl⟩ := List.getElem_of_mem hn
      exact hp h j hj (Nat.zero_le _)
    have := tot_small5 l hall
    exact ⟨⟨by omega, fun n hn => by have := hall n hn; omega, by omega⟩, hl⟩
  · exact ⟨0, false, by unfold ferrulelaw15_small.f; rw [if_pos (by omega)], fun h => by cases h⟩
end Go.Proofs.Ytcebjhbphcoboaa.Ato
namespace Go.Proofs.Ytcebjhbphcoboaa.Ato
open Go Go.RowKit Go.Proofs.Ytcebjhbphcoboaa.X Go.Proofs.Ytcebjhbphcoboaa.Hlp Go.Proofs.YtcebjhbphcoboaaW.PrintWords Go.Proofs.YtcebjhbphcoboaaW.PrintLast Go.Proofs.YtcebjhbphcoboaaW.PrintMore Go.Proofs.Ytcebjhbphcoboaa.Aid Go.Proofs.Ytcebjhbphcoboaa.Clean12
attribute [local go_sem] max2_int min2_int max_two min_two
set_option linter.unusedVariables false
set_option linter.unusedSimpArgs false
theorem own_of_Rb {w : World} {base : Nat} {ok : Nat → Prop} {v : Value} {l : List Bool} (h : Kd.R Kd.bool 4 w base ok v l) : w.ownsRow base 4 1 v l.length (bools l) := by
  obtain ⟨h0, inner, ho, hr⟩ := h
  obtain rfl := Kd.reps_encs hr
  exact ho
theorem C_of_bools {w : World} {base : Nat} {v : Value} {l : List Bool} (h : w.ownsRow base 4 1 v l.length (bools l)) : ∃ A c, v = .slice A l.length c ∧ l.length ≤ c ∧ Kd.C Kd.bool w A l.length l := by
  obtain ⟨p, c, rfl⟩ := Hlp.own_slice h
  have hR : Kd.R Kd.bool 4 w base (fun _ => True) (.slice p l.length c) l := ⟨fun _ _ => trivial, encs Value.bool l, ⟨by show (encs Value.bool l).length = l.length * 1; simp [encs], h.2⟩, Kd.reps_scalar l⟩
  have := Kd.R_reads' hR
  exact ⟨p, c, rfl, this.2.1, this.2.2⟩
set_option maxHeartbeats 4000000 in
set_option maxRecDepth 100000 in
theorem lawS_calls (A0 : Option Addr) (c0 : Nat) (l : List Int) (A1 : Option Addr) (c1 : Nat) (lits : List Int) (w : World) (hr0 : Kd.C (Kd.int .i64) w A0 l.length l) (hc0 : l.length ≤ c0) (hr1 : Kd.C (Kd.int .i64) w A1 lits.length lits) (hc1 : lits.length ≤ c1) (hx : ∀ x ∈ lits, -9223372036854775808 ≤ x ∧ x ≤ 9223372036854775807) :
    Calls Try.prog 9 #[.slice A0 l.length c0, .slice A1 lits.length c1] w fun e w' => e = .returned (.bool true) ∧ Below w.heap.size w w' := by
  obtain ⟨ks, bs, hks, hbs⟩ := small15_ev l
  have hsm : ∀ W, Below w.heap.size w W → Calls Try.prog 34 #[.slice A0 l.length c0] W _ := fun W hB => ferrulelaw15_small.calls ks A0 c0 l bs W (Kd.C_below hr0 hB) hc0 hks
  by_cases hbs1 : bs = true
  case neg =>
    simp only [Bool.not_eq_true] at hbs1
    subst hbs1
    go_enter Try.func9, Try.ntmps9
    go_wp2_with (first
      | (go_at_call 33; with_reducible refine (awake15_calls _).mono ?_; rintro e w1 ⟨rfl, hB1⟩)
      | (go_at_call 34; with_reducible refine (hsm _ hB1).mono ?_; rintro e w2 ⟨rfl, hD2⟩; have hB2 := hB1.trans (hD2.below.mono hB1.size)))
    go_ret
    exact ⟨rfl, hB2⟩
  subst hbs1
  obtain ⟨hs, hl4⟩ := hbs rfl
  by_cases hlits : 20 < lits.length
  · have hI : (20 : Int) < (lits.length : Int) := by omega
    go_enter Try.func9, Try.ntmps9
    go_wp2_with (first
      | (go_at_call 33; with_reducible refine (awake15_calls _).mono ?_; rintro e w1 ⟨rfl, hB1⟩)
      | (go_at_call 34; with_reducible refine (hsm _ hB1).mono ?_; rintro e w2 ⟨rfl, hD2⟩; have hB2 := hB1.trans (hD2.below.mono hB1.size)))
    go_ret
    exact ⟨rfl, hB2⟩
  have hI : ¬ (20 : Int) < (lits.length : Int) := by omega
  have hfi := fun W (hB : Below w.heap.size w W) => filled_calls A0 c0 l A1 c1 lits W (Kd.C_below hr0 hB) hc0 (Kd.C_below hr1 hB) hc1 hs (by omega) hx
  have hag := fillL_agree l lits [] (agree_nil l)
  have hXl := fillL_len l lits []
  have hXl2 : (fillL l [] lits).length ≤ 20 := by simp at hXl; omega
  have hin := agree_in hs.2.2 hag
  have hn0 : ∀ n ∈ l, 0 ≤ n := fun n h => (hs.2.1 n h).1
  have hsnap : ∀ {W0 b0 g W base gs lv}, SO W0 b0 g l W base gs lv (fillL l [] lits) → Calls Try.prog 37 #[.pointer (some ⟨gs, 0, none⟩)] W _ := fun h => snap_calls h hs (by omega) hin (fun p hp => alwP_ne hag p hp)
  have hsl := snapK_len l (fillL l [] lits) l.length
  have hout := snap_ok hn0 hag
  have htr := fun x (hx : x ∈ fillL l [] lits) => truth_one x (tr l (snapK l (fillL l [] lits) l.length) l.length) (by have := of_decide_eq_true (hag.1 x hx); omega) (by have := of_decide_eq_true (hag.1 x hx); have := hs.2.2; omega) (snap_true hn0 hag hx)
  obtain ⟨kt, hkt⟩ := truths_ev hs.1 hs.2.1 hs.2.2 (snapK l (fillL l [] lits) l.length)
  rw [hout] at hkt
  have htlen : (tr l (snapK l (fillL l [] lits) l.length) l.length).length ≤ 16777216 := by
    have := tr_len (ch := snapK l (fillL l [] lits) l.length) hn0 l.length (Nat.le_refl _)
    rw [List.take_length] at this
    have := hs.2.2
    omega
  clear hout hin hag hXl
  generalize fillL l [] lits = X at *
  generalize tr l (snapK l X l.length) l.length = T at *
  have hsnap' : ∀ {W0 b0 g W base gs lv}, SO W0 b0 g l W base gs lv X → Calls Try.prog 37 #[.pointer (some ⟨gs, 0, none⟩)] W fun e w' => ∃ v, e = .returned v ∧ w'.ownsRow W.heap.size 3 1 v l.length (ints (snapK l X l.length)) ∧ Below W.heap.size W w' := fun h => by
    have := hsnap h
    rw [hsl] at this
    exact this
  have htru : ∀ W A c, Below w.heap.size w W → Kd.C (Kd.int .i64) W A l.length (snapK l X l.length) → l.length ≤ c → Calls Try.prog 36 #[.slice A0 l.length c0, .slice A l.length c] W fun e w' => ∃ v, e = .returned v ∧ w'.ownsRow W.heap.size 4 1 v T.length (bools T) ∧ Below W.heap.size W w' := fun W A c hB hC hc => by
    have := ferruleref13_Truths.calls kt A0 c0 l A c (snapK l X l.length) T W (Kd.C_below hr0 hB) hc0 (by rw [hsl]; exact hC) (by rw [hsl]; exact hc) hkt
    rw [hsl] at this
    exact this.mono fun e w' ⟨v, he, hR, hb⟩ => ⟨v, he, own_of_Rb hR, hb⟩
  have hCs : ∀ {W base v}, W.ownsRow base 3 1 v l.length (ints (snapK l X l.length)) → ∃ A c, v = .slice A l.length c ∧ l.length ≤ c ∧ Kd.C (Kd.int .i64) W A l.length (snapK l X l.length) := fun h => by
    have := C_of_ints (l := snapK l X l.length) (by rw [hsl]; exact h)
    rw [hsl] at this
    exact this
  clear hsnap hkt hsl
  generalize snapK l X l.length = ch at *
  go_enter Try.func9, Try.ntmps9
  go_wp2_with (first
    | (go_at_call 33; with_reducible refine (awake15_calls _).mono ?_; rintro e w1 ⟨rfl, hB1⟩)
    | (go_at_call 34; with_reducible refine (hsm _ hB1).mono ?_; rintro e w2 ⟨rfl, hD2⟩; have hB2 := hB1.trans (hD2.below.mono hB1.size))
    | (go_at_call 35; with_reducible refine (hfi _ hB2).mono ?_; rintro e w3 ⟨W0, b0, g, base, gs, lv, vx, rfl, hbase, hS3, hX3, hB3⟩; have hBw3 := hB2.trans (hB3.mono hB2.size); obtain ⟨Ax, cx, rfl, hcx, hCx⟩ := C_of_ints hX3)
    | (go_at_call 37; with_reducible refine (hsnap' hS3).mono ?_; rintro e w4 ⟨v4, rfl, hown4, hB4⟩; have hBw4 := hBw3.trans (hB4.mono hBw3.size); obtain ⟨A4, c4, rfl, hc4, hC4⟩ := hCs hown4; have hS4 := hS3.below hB4; have hCx4 := Kd.C_below hCx hB4)
    | (go_at_call 36; with_reducible refine (htru _ _ _ hBw4 hC4 hc4).mono ?_; rintro e w5 ⟨v5, rfl, hown5, hB5⟩; have hBw5 := hBw4.trans (hB5.mono hBw4.size); obtain ⟨A5, c5, rfl, hc5, hC5⟩ := C_of_bools hown5; have hS5 := hS4.below hB5; have hCx5 := Kd.C_below hCx4 hB5))
  go_loopw [8] (fun v8 wr => ∃ k : Nat, k ≤ X.length ∧ v8 = .int .i64 k ∧ Below w5.heap.size w5 wr) (fun v8 _ => X.length - (intOf v8).toNat)
  case atStart => exact ⟨0, Nat.zero_le _, rfl, Below.refl _ _⟩
  case round =>
    obtain ⟨k, hk, rfl, hBr⟩ := hrel
    have hBw := hBw5.trans (hBr.mono hBw5.size)
    by_cases hk1 : k < X.length
    · have hkI : (k : Int) < (X.length : Int) := by omega
      obtain ⟨ad, rfl, hcell⟩ := Kd.at_int (Kd.C_below hCx5 hBr) (k : Int) (by omega) hkI
      rw [Int.toNat_natCast, show rd X (k : Int) = X[k] from by simp [rd, hk1]] at hcell
      obtain ⟨kq, hkq⟩ := htr _ (List.getElem_mem hk1)
      have htc := fun W (hb : Below w5.heap.size w5 W) => ferruleref12_Truth.calls kq X[k] A5 c5 T 1 W (Kd.C_below hC5 hb) hc5 hkq
      clear hkq
      generalize X[k] = x at *
      go_wp2_with (first
        | (go_at_call 38; with_reducible refine (htc _ hBr).mono ?_; rintro e w6 ⟨rfl, hD6⟩))
      exact ⟨⟨k + 1, by omega, rfl, hBr.trans (hD6.below.mono hBr.size)⟩, by simp [intOf]; omega⟩
    · have hkI : ¬ (k : Int) < (X.length : Int) := by omega
      have hS6 := hS5.below hBr
      go_wp2_with (first
        | (go_at_call 37; with_reducible refine (hsnap' hS6).mono ?_; rintro e w7 ⟨v7, rfl, hown7, hB7⟩; obtain ⟨p7, c7, rfl⟩ := Hlp.own_slice hown7))
      go_ret
      exact ⟨rfl, hBw.trans (hB7.mono hBw.size)⟩
end Go.Proofs.Ytcebjhbphcoboaa.Ato
