/- A solver in which literals were asserted as far as they agree (ferrulelaw15.filled). A walk by hand. -/
import Derived.Test.YtcebjhbphcoboaaQq
import Derived.Test.YtcebjhbphcoboaaXm
namespace Go.Proofs.Ytcebjhbphcoboaa.Ato
open Go Go.RowKit Go.Proofs.Ytcebjhbphcoboaa.X Go.Proofs.Ytcebjhbphcoboaa.Hlp Go.Proofs.YtcebjhbphcoboaaW.PrintWords Go.Proofs.YtcebjhbphcoboaaW.PrintLast Go.Proofs.YtcebjhbphcoboaaW.PrintMore Go.Proofs.Ytcebjhbphcoboaa.Aid Go.Proofs.Ytcebjhbphcoboaa.Clean12
attribute [local go_sem] max2_int min2_int max_two min_two
set_option linter.unusedVariables false
set_option linter.unusedSimpArgs false
/-- The literals behind one more assertion; behind all. -/
def asL (l L : List Int) (x : Int) : List Int := if asE l L x = 0 then L ++ [x] else L
def fillL (l : List Int) : List Int → List Int → List Int
  | L, [] => L
  | L, x :: r => fillL l (asL l L x) r
/-- What a solver's literals are: literals, of each package some rank is allowed. -/
def Agree (l L : List Int) : Prop := (∀ x ∈ L, litOk l x = true) ∧ ∀ p : Int, alw l p (ofL l p L) ≠ []
theorem agree_nil (l : List Int) : Agree l [] := by
  refine ⟨fun x h => (by cases h), fun p => ?_⟩
  have h : (-1 : Int) ∈ alw l p (ofL l p []) := by
    unfold alw alwK
    rw [List.mem_filter]
    refine ⟨?_, by simp [ofL]⟩
    unfold ranks
    rw [List.mem_map]
    exact ⟨0, by simp, by simp⟩
  intro e
  rw [e] at h
  cases h
theorem agree_as {l L : List Int} (h : Agree l L) (x : Int) : Agree l (asL l L x) := by
  unfold asL
  split
  · rename_i he
    unfold asE at he
    split at he
    · cases he
    · rename_i hok
      split at he
      · cases he
      · split at he
        · cases he
        · split at he
          · cases he
          · rename_i hal
            refine ⟨fun y hy => ?_, fun p => ?_⟩
            · rw [List.mem_append] at hy
              rcases hy with hy | hy
              · exact h.1 y hy
              · simp at hy
                subst hy
                simpa using hok
            · have e : ofL l p (L ++ [x]) = if (litA l x).f1 == p then ofL l p L ++ [x] else ofL l p L := by
                unfold ofL
                rw [List.filter_append]
                by_cases hp : ((litA l x).f1 == p) = true
                · rw [if_pos hp]; simp [List.filter_cons, hp]
                · rw [if_neg hp]; simp [List.filter_cons, hp]
              rw [e]
              by_cases hp : ((litA l x).f1 == p) = true
              · rw [if_pos hp]
                have hp' : (litA l x).f1 = p := by simpa using hp
                unfold asM at hal
                rw [hp'] at hal
                exact hal
              · rw [if_neg hp]; exact h.2 p
  · exact h
theorem fillL_snoc (l : List Int) : ∀ (r L : List Int) (x : Int), fillL l L (r ++ [x]) = asL l (fillL l L r) x
  | [], _, _ => rfl
  | y :: r, L, x => by simp only [List.cons_append, fillL]; exact fillL_snoc l r _ x
theorem fillL_take (l lits : List Int) (k : Nat) (hk : k < lits.length) : fillL l [] (lits.take (k + 1)) = asL l (fillL l [] (lits.take k)) lits[k] := by
  rw [List.take_succ_eq_append_getElem hk, fillL_snoc]
theorem fillL_agree (l : List Int) : ∀ (r L : List Int), Agree l L → Agree l (fillL l L r)
  | [], _, h => h
  | x :: r, _, h => fillL_agree l r _ (agree_as h x)
theorem asL_len (l L : List Int) (x : Int) : (asL l L x).length ≤ L.length + 1 := by unfold asL; split <;> simp
theorem fillL_len (l : List Int) : ∀ (r L : List Int), (fillL l L r).length ≤ L.length + r.length
  | [], _ => by simp [fillL]
  | x :: r, L => by
    have h1 := fillL_len l r (asL l L x)
    have h2 := asL_len l L x
    simp only [fillL, List.length_cons]; omega
theorem agree_in {l L : List Int} (ht : tot l ≤ 16777216) (h : Agree l L) : In64 L := fun x hx => litOk_in ht (h.1 x hx)
theorem assert_calls {W0 : World} {b0 g : Nat} {l : List Int} {w : World} {base gs : Nat} {lv : Value} {L : List Int} (h : SO W0 b0 g l w base gs lv L) (x : Int) (hxx : -9223372036854775808 ≤ x ∧ x ≤ 9223372036854775807) (hs : Szs l) (hL : L.length ≤ 100) (ha : Agree l L) :
    Calls Try.prog 42 #[.pointer (some ⟨gs, 0, none⟩), .int .i64 x] w fun e w' => ∃ v lv', e = .returned (.tuple #[v, .int .i64 (asE l L x)]) ∧ SO W0 b0 g l w' base gs lv' (asL l L x) ∧ Below base w w' ∧ KeepBut w w' gs lv.ownBlock ∧ (lv'.ownBlock = lv.ownBlock ∨ ∃ q, lv'.ownBlock = some q ∧ w.heap.size ≤ q) := by
  have hx := agree_in hs.2.2 ha
  have hbs : base ≤ w.heap.size := by
    obtain ⟨_, _, _, h4, h5, _⟩ := h
    have := blk_lt h4
    omega
  have same : ∀ w', Below w.heap.size w w' → SO W0 b0 g l w' base gs lv L ∧ Below base w w' ∧ KeepBut w w' gs lv.ownBlock ∧ (lv.ownBlock = lv.ownBlock ∨ ∃ q, lv.ownBlock = some q ∧ w.heap.size ≤ q) := fun w' hb => ⟨h.below hb, hb.mono hbs, ⟨hb.size, fun i hi _ _ => hb.block i hi⟩, .inl rfl⟩
  by_cases hno : litOk l x = false ∨ x ∈ L ∨ -x ∈ L
  · have he : asE l L x ≠ 0 := by
      unfold asE
      split
      · decide
      · split
        · decide
        · rename_i h1 h2
          rw [if_pos (by rcases hno with h | h | h; (exact absurd h h1); (exact absurd h h2); exact h)]; decide
    have hL' : asL l L x = L := by unfold asL; rw [if_neg he]
    rw [hL']
    exact (assert_no h x hxx hs hL hx hno).mono fun e w' ⟨he, hb⟩ => ⟨_, lv, he, same w' hb⟩
  · have hok : litOk l x = true := by
      cases hk : litOk l x with
      | true => rfl
      | false => exact absurd (.inl hk) hno
    have hm : x ∉ L := fun h => hno (.inr (.inl h))
    have hn : -x ∉ L := fun h => hno (.inr (.inr h))
    by_cases hal : alw l (litA l x).f1 (asM l L x) = []
    · have he : asE l L x = 18 := by unfold asE; rw [if_neg (by rw [hok]; decide), if_neg hm, if_neg hn, if_pos hal]
      have hL' : asL l L x = L := by unfold asL; rw [if_neg (by rw [he]; decide)]
      rw [hL', he]
      exact (assert_conf h x hs hL hx hok hm hn hal).mono fun e w' ⟨v, he, _, hb⟩ => ⟨v, lv, he, same w' hb⟩
    · have he : asE l L x = 0 := by unfold asE; rw [if_neg (by rw [hok]; decide), if_neg hm, if_neg hn, if_neg hal]
      have hL' : asL l L x = L ++ [x] := by unfold asL; rw [if_pos he]
      rw [hL', he]
      exact (assert_ok h x hs hL hx hok hm hn hal).mono fun e w' ⟨lv', he, hS, hb⟩ => ⟨_, lv', he, hS, hb⟩
theorem own_keep {W W' : World} {base n : Nat} {v : Value} {xs : List Value} (h : W.ownsRow base 3 1 v n xs) (hk : ∀ q, v.ownBlock = some q → W'.heap[q]? = W.heap[q]?) : W'.ownsRow base 3 1 v n xs := by
  refine ⟨h.1, ?_⟩
  rcases h.2 with h2 | ⟨b, cap, cur, rfl, h3, h4, h5⟩
  · exact .inl h2
  · exact .inr ⟨b, cap, cur, rfl, h3, (hk b rfl).trans h4, h5⟩
theorem SO.grown {W0 : World} {b0 g : Nat} {l : List Int} {W W' : World} {base gs : Nat} {lv : Value} {L : List Int} {row : Option Nat} (h : SO W0 b0 g l W base gs lv L) (hg : W.grownBy W' row) (h1 : some gs ≠ row) (h2 : lv.ownBlock = none ∨ lv.ownBlock ≠ row) (h3 : ∀ q, row = some q → W0.heap.size ≤ q) : SO W0 b0 g l W' base gs lv L := by
  obtain ⟨k1, k2, k3, k4, k5, k6⟩ := h
  exact ⟨k1, k2.grown hg k2.size h3, k3, blk_grown k4 hg h1, k5, k6.kept hg h2⟩
set_option maxHeartbeats 2000000 in
set_option maxRecDepth 100000 in
theorem filled_calls (A0 : Option Addr) (c0 : Nat) (l : List Int) (A1 : Option Addr) (c1 : Nat) (lits : List Int) (w : World) (hr0 : Kd.C (Kd.int .i64) w A0 l.length l) (hc0 : l.length ≤ c0) (hr1 : Kd.C (Kd.int .i64) w A1 lits.length lits) (hc1 : lits.length ≤ c1) (hs : Szs l) (hlits : lits.length ≤ 20) (hx : ∀ x ∈ lits, -9223372036854775808 ≤ x ∧ x ≤ 9223372036854775807) :
    Calls Try.prog 35 #[.slice A0 l.length c0, .slice A1 lits.length c1] w fun e w' => ∃ W0 b0 g base gs lv v, e = .returned (.tuple #[.pointer (some ⟨gs, 0, none⟩), v]) ∧ w.heap.size ≤ base ∧ SO W0 b0 g l w' base gs lv (fillL l [] lits) ∧ w'.ownsRow w.heap.size 3 1 v (fillL l [] lits).length (ints (fillL l [] lits)) ∧ Below w.heap.size w w' := by
  have hmk := made A0 c0 l w hr0 hc0 hs.1 hs.2.1 hs.2.2
  obtain ⟨i0, hi, hz0, hz1, hz2⟩ := info_parts info3'
  go_enter Try.func35, Try.ntmps35
  go_wp2_with (first
    | (go_at_call 40; with_reducible refine hmk.mono ?_; rintro e w1 ⟨g, rfl, hT, hB1⟩)
    | (go_at_call 39; with_reducible refine (newS_calls hT).mono ?_; rintro e w2 ⟨gs, rfl, hS2, hB2⟩; have hBw2 := hB1.trans (hB2.mono hB1.size)))
  go_loopw [7, 8] (fun v7 v8 wr => ∃ (k : Nat) (lv : Value), k ≤ lits.length ∧ v8 = .int .i64 k ∧ SO w1 w.heap.size g l wr w1.heap.size gs lv (fillL l [] (lits.take k)) ∧ wr.ownsRow w.heap.size 3 1 v7 (fillL l [] (lits.take k)).length (ints (fillL l [] (lits.take k))) ∧ (∀ q, v7.ownBlock = some q → w1.heap.size ≤ q ∧ lv.ownBlock ≠ some q) ∧ Below w.heap.size w wr)
    (fun _ v8 _ => lits.length - (intOf v8).toNat)
  case atStart => exact ⟨0, _, Nat.zero_le _, rfl, by simpa [fillL] using hS2, World.ownsRow_nil _ _ _ _, (fun q e => by simp [Value.ownBlock] at e), hBw2⟩
  case round =>
    obtain ⟨k, lv, hk, rfl, hS, hown, hdj, hB⟩ := hrel
    obtain ⟨p7, c7, rfl⟩ := Hlp.own_slice hown
    by_cases hk1 : k < lits.length
    · have hkI : (k : Int) < (lits.length : Int) := by omega
      obtain ⟨ad, rfl, hcellw⟩ := Kd.at_int hr1 (k : Int) (by omega) hkI
      rw [Int.toNat_natCast, show rd lits (k : Int) = lits[k] from by simp [rd, hk1]] at hcellw
      have hcell0 := cell_below' hcellw hB
      have hxk := hx _ (List.getElem_mem hk1)
      have hag := fillL_agree l (lits.take k) [] (agree_nil l)
      have hfl := fillL_len l (lits.take k) []
      rw [List.length_take] at hfl
      have hft := fillL_take l lits k hk1
      have hXl : (fillL l [] (lits.take k)).length ≤ 20 := by simp at hfl; omega
      have has := assert_calls hS lits[k] hxk hs (by omega) hag
      have hgs : some gs ≠ (Value.slice p7 (fillL l [] (lits.take k)).length c7).ownBlock := Hlp.own_ne hown hS.2.2.2.1 (by simp)
      clear hfl hag
      unfold asL at has hft
      generalize fillL l [] (lits.take k) = X at *
      generalize lits[k] = x at *
      have hlt7 := fun q e => (hown.lt q e).2
      have hkp : ∀ W', KeepBut wr W' gs lv.ownBlock → W'.ownsRow w.heap.size 3 1 (.slice p7 X.length c7) X.length (ints X) := fun W' hK3 => own_keep hown (fun q e => hK3.2 q (hlt7 q e) (fun h => hgs (by subst h; exact e.symm)) (fun h => (hdj q e).2 h.symm))
      by_cases hE : asE l X x = 0
      · rw [if_pos hE] at has hft
        rw [hE] at has
        have HF := Aside0.mk hft
        clear hft hE
        go_wp2_with (first
          | (go_at_call 42; with_reducible refine has.mono ?_; rintro e w3 ⟨v3, lv3, rfl, hS3, hB3, hK3, hO3⟩; have hBw3 := hB.trans (hB3.mono hB1.size); have hcell3 := cell_below' hcellw hBw3; have hown3 := hkp _ hK3)
          | (at_builtin; refine wpList_append_own_at _ rfl _ _ 46 rfl w.heap.size 3 i0 (.int .i64 0) 1 8 Try.underlying46 hi hz0 hz1 hz2 rfl (by decide) _ _ _ rfl (hown3.alloc _) ⟨w3.heap.size, 0, none⟩ 1 1 [.int .i64 x] rfl rfl (cell_one_new _ _ _) (by simp [Value.oneCell']) (by unfold maxLen; omega) (by omega) (by have := hBw3.size; simp; omega) ?_; intro v4 w4 hown4 hgrow4 hnil4 hblk4))
        have hlv3 : lv3.ownBlock = none ∨ lv3.ownBlock ≠ (Value.slice p7 X.length c7).ownBlock := by
          cases h3 : lv3.ownBlock with
          | none => exact .inl rfl
          | some q =>
            refine .inr fun e => ?_
            rcases hO3 with h | ⟨q', h, hq⟩
            · exact (hdj q e.symm).2 (by rw [← h, h3])
            · rw [h3] at h
              obtain rfl := Option.some.inj h
              have := hlt7 _ e.symm
              omega
        have hsz3 := hBw3.size
        have hszk := hK3.1
        refine ⟨⟨k + 1, lv3, by omega, rfl, ?_, ?_, ?_, ?_⟩, by simp [intOf]; omega⟩
        · rw [HF.out]
          exact (hS3.below ((Below.refl _ _).alloc (Nat.le_refl _) _)).grown hgrow4 hgs hlv3 (fun q e => (hdj q e).1)
        · rw [HF.out]; exact int_app hown4
        · intro q e
          replace e : v4.ownBlock = some q := e
          rcases hblk4 with h | h
          · rw [h] at e
            refine ⟨(hdj q e).1, fun h' => ?_⟩
            rcases hlv3 with h3 | h3
            · rw [h3] at h'; cases h'
            · exact h3 (h'.trans e.symm)
          · rw [h] at e
            obtain rfl := Option.some.inj e
            have hl3 := fun q e => (hS3.2.2.2.2.2.lt q e).2
            refine ⟨by have := hB1.size; have := hBw2.size; have := hS3.2.1.size; simp; omega, fun h' => ?_⟩
            have := hl3 _ h'
            simp at this
            omega
        · exact (hBw3.alloc hBw3.size _).grown hgrow4 (by simp; omega) (fun q e => (hown.lt q e).1)
      · rw [if_neg hE] at has hft
        have HF := Aside0.mk hft
        have hEf : (asE l X x == 0) = false := beq_eq_false_iff_ne.mpr hE
        clear hft hE
        generalize asE l X x = E at *
        go_wp2_with (first
          | (go_at_call 42; with_reducible refine has.mono ?_; rintro e w3 ⟨v3, lv3, rfl, hS3, hB3, hK3, hO3⟩; have hBw3 := hB.trans (hB3.mono hB1.size); have hcell3 := cell_below' hcellw hBw3; have hown3 := hkp _ hK3))
        refine ⟨⟨k + 1, lv3, by omega, rfl, ?_, ?_, ?_, hBw3⟩, by simp [intOf]; omega⟩
        · rw [HF.out]; exact hS3
        · rw [HF.out]; exact hown3
        · intro q e
          refine ⟨(hdj q e).1, fun h' => ?_⟩
          rcases hO3 with h | ⟨q', h, hq⟩
          · exact (hdj q e).2 (by rw [← h, h'])
          · rw [h'] at h
            obtain rfl := Option.some.inj h
            have := hlt7 _ e
            omega
    · have hkI : ¬ (k : Int) < (lits.length : Int) := by omega
      obtain rfl : k = lits.length := by omega
      rw [List.take_length] at hS hown
      go_wp2
      go_ret2
      exact ⟨_, _, _, _, _, _, _, rfl, hB1.size, hS, hown, hB⟩
end Go.Proofs.Ytcebjhbphcoboaa.Ato
