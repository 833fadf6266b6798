/- OrderPlays: the law's walk: whatever is asserted and undone is as the document says. -/
import Derived.Test.YtcebjhbphcoboaaQw
import Derived.Test.YtcebjhbphcoboaaRa
import Derived.Test.YtcebjhbphcoboaaRb
namespace Go.Proofs.Ytcebjhbphcoboaa.Ato
open Go Go.RowKit Go.Proofs.Ytcebjhbphcoboaa.X Go.Proofs.Ytcebjhbphcoboaa.Hlp Go.Proofs.YtcebjhbphcoboaaW.PrintWords Go.Proofs.YtcebjhbphcoboaaW.PrintLast Go.Proofs.YtcebjhbphcoboaaW.PrintMore Go.Proofs.Ytcebjhbphcoboaa.Aid Go.Proofs.Ytcebjhbphcoboaa.Clean12
attribute [local go_sem] max2_int min2_int max_two min_two
set_option linter.unusedVariables false
set_option linter.unusedSimpArgs false
theorem negL_len' (L : List Int) : (negL L).length ≤ L.length := by
  unfold negL Clause12.cleanP
  split
  · exact Nat.zero_le _
  · have := Clause12.clean_len (L.map fun x => -x)
    rw [List.length_map] at this
    exact this
theorem asC_len (l L : List Int) (x : Int) : (asC l L x).length ≤ L.length + 1 := by
  unfold asC
  split
  · refine Nat.le_trans (negL_len' _) (Nat.le_trans (expl_len l _ 0 _ _ 0) ?_)
    unfold asM
    rw [List.length_append, List.length_singleton]
    have := ofL_len l (litA l x).f1 L
    omega
  · exact Nat.zero_le _
theorem agree_take {l L : List Int} (h : Agree l L) (k : Nat) : Agree l (L.take k) := by
  refine ⟨fun x hx => h.1 x (List.mem_of_mem_take hx), fun p => ?_⟩
  have h2 := h.2 p
  intro e
  apply h2
  unfold alw alwK at *
  rw [List.filter_eq_nil_iff] at e ⊢
  intro r hr hall
  refine e r hr ?_
  rw [List.all_eq_true] at hall ⊢
  intro y hy
  refine hall y ?_
  unfold ofL at hy ⊢
  rw [List.mem_filter] at hy ⊢
  exact ⟨List.mem_of_mem_take hy.1, hy.2⟩
theorem alwP_ne' {l X : List Int} (ha : Agree l X) (p : Nat) (hp : p < l.length) : alwP l X (p : Int) ≠ [] := by
  unfold alwP
  rw [if_pos ⟨by omega, by omega⟩]
  exact ha.2 _
/-- An assertion: its error and conflict too. -/
theorem assertP_calls {W0 : World} {b0 g : Nat} {l : List Int} {w : World} {base gs : Nat} {lv : Value} {L : List Int} (h : SO W0 b0 g l w base gs lv L) (x : Int) (hxx : -9223372036854775808 ≤ x ∧ x ≤ 9223372036854775807) (hs : Szs l) (hL : L.length ≤ 100) (ha : Agree l L) :
    Calls Try.prog 42 #[.pointer (some ⟨gs, 0, none⟩), .int .i64 x] w fun e w' => ∃ v lv', e = .returned (.tuple #[v, .int .i64 (asE l L x)]) ∧ w'.ownsRow w.heap.size 3 1 v (asC l L x).length (ints (asC l L x)) ∧ SO W0 b0 g l w' base gs lv' (asL l L x) ∧ Below base w w' ∧ KeepBut w w' gs lv.ownBlock ∧ (lv'.ownBlock = lv.ownBlock ∨ ∃ q, lv'.ownBlock = some q ∧ w.heap.size ≤ q) := by
  have hx := agree_in hs.2.2 ha
  have hbs : base ≤ w.heap.size := by
    obtain ⟨_, _, _, h4, h5, _⟩ := h
    have := blk_lt h4
    omega
  have same : ∀ w', Below w.heap.size w w' → SO W0 b0 g l w' base gs lv L ∧ Below base w w' ∧ KeepBut w w' gs lv.ownBlock ∧ (lv.ownBlock = lv.ownBlock ∨ ∃ q, lv.ownBlock = some q ∧ w.heap.size ≤ q) := fun w' hb => ⟨h.below hb, hb.mono hbs, ⟨hb.size, fun i hi _ _ => hb.block i hi⟩, .inl rfl⟩
  by_cases hno : litOk l x = false ∨ x ∈ L ∨ -x ∈ L
  · have he : asE l L x ≠ 0 ∧ asE l L x ≠ 18 := by
      unfold asE
      split
      · decide
      · split
        · decide
        · rename_i h1 h2
          rw [if_pos (by rcases hno with h | h | h; (exact absurd h h1); (exact absurd h h2); exact h)]; decide
    have hL' : asL l L x = L := by unfold asL; rw [if_neg he.1]
    have hC' : asC l L x = [] := by unfold asC; rw [if_neg he.2]
    rw [hL', hC']
    exact (assert_no h x hxx hs hL hx hno).mono fun e w' ⟨he, hb⟩ => ⟨_, lv, he, World.ownsRow_nil _ _ _ _, same w' hb⟩
  · have hok : litOk l x = true := by
      cases hk : litOk l x with
      | true => rfl
      | false => exact absurd (.inl hk) hno
    have hm : x ∉ L := fun h => hno (.inr (.inl h))
    have hn : -x ∉ L := fun h => hno (.inr (.inr h))
    by_cases hal : alw l (litA l x).f1 (asM l L x) = []
    · have he : asE l L x = 18 := by unfold asE; rw [if_neg (by rw [hok]; decide), if_neg hm, if_neg hn, if_pos hal]
      have hL' : asL l L x = L := by unfold asL; rw [if_neg (by rw [he]; decide)]
      have hC' : asC l L x = negL (expl l (litA l x).f1 0 (asM l L x)) := by unfold asC; rw [if_pos he]
      rw [hL', he, hC']
      exact (assert_conf h x hs hL hx hok hm hn hal).mono fun e w' ⟨v, he, hv, hb⟩ => ⟨v, lv, he, hv, same w' hb⟩
    · have he : asE l L x = 0 := by unfold asE; rw [if_neg (by rw [hok]; decide), if_neg hm, if_neg hn, if_neg hal]
      have hL' : asL l L x = L ++ [x] := by unfold asL; rw [if_pos he]
      have hC' : asC l L x = [] := by unfold asC; rw [if_neg (by rw [he]; decide)]
      rw [hL', he, hC']
      exact (assert_ok h x hs hL hx hok hm hn hal).mono fun e w' ⟨lv', he, hS, hb⟩ => ⟨_, lv', he, World.ownsRow_nil _ _ _ _, hS, hb⟩
/-- The document's literals behind an assertion. -/
theorem asL_of (l L : List Int) (x : Int) : (asE l L x = 0 → asL l L x = L ++ [x]) ∧ (asE l L x ≠ 0 → asL l L x = L) := by
  unfold asL
  exact ⟨fun h => if_pos h, fun h => if_neg h⟩
/-- The first elements of a row, to be appended. -/
theorem news_take {W : World} {A : Option Addr} {L : List Int} (h : Kd.C (Kd.int .i64) W A L.length L) (K : Nat) (hK : K ≤ L.length) : (A = none → K = 0) ∧ ∀ a, A = some a → ∀ j u, (ints (L.take K))[j]? = some u → W.cell? (a.add j) = some u := by
  obtain ⟨h1, h2⟩ := news_of_C h
  refine ⟨fun e => by have := h1 e; omega, fun a ha j u hu => h2 a ha j u ?_⟩
  unfold ints at hu ⊢
  rw [List.map_take, List.getElem?_take] at hu
  split at hu
  · exact hu
  · cases hu
theorem C_at {W : World} {base : Nat} {p : Option Addr} {c : Nat} {L : List Int} (h : W.ownsRow base 3 1 (.slice p L.length c) L.length (ints L)) : Kd.C (Kd.int .i64) W p L.length L := by
  obtain ⟨A, c', e, _, hC⟩ := C_of_ints h
  obtain ⟨rfl, _, _⟩ := Value.slice.inj e
  exact hC
theorem same_calls {W : World} {A B : Option Addr} {a b : Nat} {L : List Int} (hL : L.length ≤ 1000000000) (h1 : Kd.C (Kd.int .i64) W A L.length L) (h2 : L.length ≤ a) (h3 : Kd.C (Kd.int .i64) W B L.length L) (h4 : L.length ≤ b) : Calls Try.prog 44 #[.slice A L.length a, .slice B L.length b] W fun e w' => e = .returned (.bool true) ∧ Drawn0 W w' := by
  obtain ⟨k, hk⟩ := (same_ev L hL).rounds
  exact ferruleref12_Same.calls k A a L B b L true W h1 h2 h3 h4 hk
/-- Behind an append to a row just made. -/
theorem after_lit {wr w9 : World} {B : Nat} {v9 : Value} {K : Nat} {M : List Int} (hMK : M.length = K) (hown9 : w9.ownsRow B 3 1 v9 (0 + K) ([] ++ ints M)) (hgrow9 : (wr.alloc (.cells #[] 3)).grownBy w9 (Value.slice (some ⟨wr.heap.size, 0, none⟩) 0 0).ownBlock) (hat9 : v9.ownBlock = (Value.slice (some ⟨wr.heap.size, 0, none⟩) 0 0).ownBlock ∨ v9.ownBlock = some (wr.alloc (.cells #[] 3)).heap.size) :
    w9.ownsRow B 3 1 v9 M.length (ints M) ∧ Below wr.heap.size wr w9 ∧ ∀ q, v9.ownBlock = some q → wr.heap.size ≤ q := by
  refine ⟨by rw [hMK]; simpa using hown9, ((Below.refl _ _).alloc (Nat.le_refl _) _).grown hgrow9 (by simp) (fun q e => ?_), fun q e => ?_⟩
  · have : some wr.heap.size = some q := e
    exact Nat.le_of_eq (Option.some.inj this)
  · rcases hat9 with h | h
    · have : some wr.heap.size = some q := h.symm.trans e
      exact Nat.le_of_eq (Option.some.inj this)
    · rw [h] at e
      have := Option.some.inj e
      simp at this
      omega
theorem keep_row {w9 w10 : World} {B gs n : Nat} {v : Value} {ob : Option Nat} {xs : List Value} (hk : KeepBut w9 w10 gs ob) (h : w9.ownsRow B 3 1 v n xs) (hne : ∀ q, v.ownBlock = some q → q ≠ gs ∧ some q ≠ ob) : w10.ownsRow B 3 1 v n xs :=
  own_keep h fun q e => hk.2 q (h.lt q e).2 (hne q e).1 (hne q e).2
theorem SO.gs_lt {W0 : World} {b0 g : Nat} {l : List Int} {W : World} {base gs : Nat} {lv : Value} {L : List Int} (h : SO W0 b0 g l W base gs lv L) : gs < W.heap.size ∧ ∀ q, lv.ownBlock = some q → q < W.heap.size := by
  obtain ⟨_, _, _, h4, _, h6⟩ := h
  exact ⟨blk_lt h4, fun q e => (h6.lt q e).2⟩
theorem asE_in (l L : List Int) (x : Int) : 0 ≤ asE l L x ∧ asE l L x ≤ 18 := by
  unfold asE
  (repeat' split) <;> omega
set_option maxHeartbeats 8000000 in
set_option maxRecDepth 100000 in
theorem lawP_calls (A0 : Option Addr) (c0 : Nat) (l : List Int) (A1 : Option Addr) (c1 : Nat) (acts : List S74) (w : World) (hr0 : Kd.C (Kd.int .i64) w A0 l.length l) (hc0 : l.length ≤ c0) (hr1 : Kd.C k74 w A1 acts.length acts) (hc1 : acts.length ≤ c1) (hx : ∀ a ∈ acts, -9223372036854775808 ≤ a.f1 ∧ a.f1 ≤ 9223372036854775807) :
    Calls Try.prog 10 #[.slice A0 l.length c0, .slice A1 acts.length c1] w fun e w' => e = .returned (.bool true) ∧ Below w.heap.size w w' := by
  obtain ⟨ks, bs, hks, hbs⟩ := small15_ev l
  have hsm : ∀ W, Below w.heap.size w W → Calls Try.prog 34 #[.slice A0 l.length c0] W _ := fun W hB => ferrulelaw15_small.calls ks A0 c0 l bs W (Kd.C_below hr0 hB) hc0 hks
  by_cases hbs1 : bs = true
  case neg =>
    simp only [Bool.not_eq_true] at hbs1
    subst hbs1
    go_enter Try.func10, Try.ntmps10
    go_wp2_with (first
      | (go_at_call 33; with_reducible refine (awake15_calls _).mono ?_; rintro e w1 ⟨rfl, hB1⟩)
      | (go_at_call 34; with_reducible refine (hsm _ hB1).mono ?_; rintro e w2 ⟨rfl, hD2⟩; have hB2 := hB1.trans (hD2.below.mono hB1.size)))
    go_ret
    exact ⟨rfl, hB2⟩
  subst hbs1
  obtain ⟨hs, hl4⟩ := hbs rfl
  by_cases hacts : 30 < acts.length
  · have hI : (30 : Int) < (acts.length : Int) := by omega
    go_enter Try.func10, Try.ntmps10
    go_wp2_with (first
      | (go_at_call 33; with_reducible refine (awake15_calls _).mono ?_; rintro e w1 ⟨rfl, hB1⟩)
      | (go_at_call 34; with_reducible refine (hsm _ hB1).mono ?_; rintro e w2 ⟨rfl, hD2⟩; have hB2 := hB1.trans (hD2.below.mono hB1.size)))
    go_ret
    exact ⟨rfl, hB2⟩
  have hI : ¬ (30 : Int) < (acts.length : Int) := by omega
  obtain ⟨i0, hi, hz0, hz1, hz2⟩ := info_parts info3'
  have hmk := fun W (hB : Below w.heap.size w W) => made A0 c0 l W (Kd.C_below hr0 hB) hc0 hs.1 hs.2.1 hs.2.2
  go_enter Try.func10, Try.ntmps10
  go_wp2_with (first
    | (go_at_call 33; with_reducible refine (awake15_calls _).mono ?_; rintro e w1 ⟨rfl, hB1⟩)
    | (go_at_call 34; with_reducible refine (hsm _ hB1).mono ?_; rintro e w2 ⟨rfl, hD2⟩; have hB2 := hB1.trans (hD2.below.mono hB1.size))
    | (go_at_call 40; with_reducible refine (hmk _ hB2).mono ?_; rintro e w3 ⟨g, rfl, hT3, hB3⟩; have hBw3 := hB2.trans (hB3.mono hB2.size))
    | (go_at_call 39; with_reducible refine (newS_calls hT3).mono ?_; rintro e w4 ⟨gs, rfl, hS4, hB4⟩; have hBw4 := hBw3.trans (hB4.mono hBw3.size)))
  have hwb : w.heap.size ≤ w3.heap.size := hBw3.size
  generalize hbb : w3.heap.size = base at hS4 hwb
  clear hbb
  go_loopw [6, 7] (fun v6 v7 wr => ∃ (k : Nat) (X : List Int) (lv : Value), k ≤ acts.length ∧ v7 = .int .i64 k ∧ X.length ≤ k ∧ Agree l X ∧ SO w3 w2.heap.size g l wr base gs lv X ∧ wr.ownsRow w.heap.size 3 1 v6 X.length (ints X) ∧ (∀ q, v6.ownBlock = some q → q ≠ gs ∧ some q ≠ lv.ownBlock) ∧ Below w.heap.size w wr)
    (fun _ v7 _ => acts.length - (intOf v7).toNat)
  case atStart => exact ⟨0, [], .slice none 0 0, Nat.zero_le _, rfl, Nat.le_refl _, agree_nil l, hS4, World.ownsRow_nil _ _ _ _, (fun q e => by cases e), hBw4⟩
  case round =>
    obtain ⟨k, X, lv, hk, rfl, hXk, hag, hS, hown, hne, hB⟩ := hrel
    obtain ⟨p6, c6, e6, hc6, hC6⟩ := C_of_ints hown
    subst e6
    have hin := agree_in hs.2.2 hag
    by_cases hk1 : k < acts.length
    · have hkI : (k : Int) < (acts.length : Int) := by omega
      obtain ⟨ad, rfl, ha0, ha1⟩ := at_T74 (Kd.C_below hr1 hB) (k : Int) (by omega) hkI
      have hmem : rd_T74 acts (k : Int) ∈ acts := by
        unfold rd_T74
        rw [Int.toNat_natCast, List.getD, List.getElem?_eq_getElem hk1]
        exact List.getElem_mem hk1
      have hxa := hx _ hmem
      rw [Int.toNat_natCast] at ha0 ha1
      generalize rd_T74 acts (k : Int) = a at ha0 ha1 hxa
      clear hmem
      obtain ⟨kd, n⟩ := a
      dsimp only at ha0 ha1 hxa
      obtain ⟨hgs, hlvb⟩ := hS.gs_lt
      have hfar : ∀ (v : Value), (∀ q, v.ownBlock = some q → wr.heap.size ≤ q) → ∀ q, v.ownBlock = some q → q ≠ gs ∧ some q ≠ lv.ownBlock := fun v hv q e => ⟨by have := hv q e; omega, fun e2 => by have := hv q e; have := hlvb q e2.symm; omega⟩
      by_cases hkd : kd = 3
      · subst hkd
        have hl0 : ¬ (X.length : Int) < 0 := by omega
        have hmade : (wr.alloc (.cells #[] 3)).ownsRow w.heap.size 3 1 (.slice (some ⟨wr.heap.size, 0, none⟩) 0 0) 0 [] := World.ownsRow_made wr #[] 0 hB.size (Nat.zero_le _) rfl
        have hsza : w.heap.size ≤ (wr.alloc (.cells #[] 3)).heap.size := by have := hB.size; simp; omega
        by_cases hn0 : n < 0
        · have hku : unK n X.length = 0 := by unfold unK; omega
          have hkz : ((unK n X.length : Nat) : Int) = (0 : Int) := by omega
          have hKl : 0 ≤ X.length := by omega
          have hun := fun W (hb : Below wr.heap.size wr W) => undo_calls (hS.below hb) n (by omega)
          rw [hku] at hun hkz
          rw [hkz] at hun
          obtain ⟨hnwa, hnwb⟩ := news_take (Kd.C_alloc hC6 (.cells #[] 3)) 0 hKl
          have hYl : (X.take 0).length = 0 := by rw [List.length_take]; omega
          have hYa := agree_take hag 0
          generalize X.take 0 = Y at *
          have hilK : (ints Y).length = 0 := by simp [ints, hYl]
          have hmxK : 0 + 0 ≤ maxLen := by unfold maxLen; omega
          have hbyK : (0 + 0) * 8 ≤ 140737488355328 := by omega
          have HYL := Aside0.mk hYl
          have hY100 : Y.length ≤ 100 := by omega
          clear hku hkz hYl
          have HIL := Aside0.mk hilK
          clear hilK
          go_wp2_with (first
            | (at_builtin; refine wpList_append_any _ _ 46 rfl w.heap.size 3 i0 (.int .i64 0) 8 Try.underlying46 hi hz0 hz1 hz2 rfl _ 0 [] rfl hmade p6 (0) c6 (ints Y) rfl HIL.out hnwa hnwb (ints_one _) hmxK hbyK hsza rfl ?_; intro v9 w9 hown9 hgrow9 hat9; obtain ⟨hown9', hB9, hne9⟩ := after_lit HYL.out hown9 hgrow9 hat9; obtain ⟨p9, c9, e9, hc9, hC9⟩ := C_of_ints hown9'; subst e9; have hun9 := hun w9 hB9; have hne9' := hfar _ hne9)
            | (go_at_call 41; with_reducible refine hun9.mono ?_; rintro e w10 ⟨lv', rfl, hS10, hB10, hK10, hO10⟩; have hx10 := keep_row hK10 hown9' hne9'; have hBw10 := (hB.trans (hB9.mono hB.size)).trans (hB10.mono hwb); have has10 := asserted_calls hS10 hY100)
            | (go_at_call 45; with_reducible refine has10.mono ?_; rintro e w11 ⟨v11, rfl, hown11, hB11⟩; obtain ⟨p11, c11, e11, hc11, hC11⟩ := C_of_ints hown11; subst e11; have hx11 := Hlp.own_below hx10 hB11; have hs11 := same_calls (by omega) hC11 hc11 (C_at hx11) hc9; have hBw11 := hBw10.trans (hB11.mono hBw10.size); have hS11 := hS10.below hB11)
            | (go_at_call 44; with_reducible refine hs11.mono ?_; rintro e w12 ⟨rfl, hD12⟩; have hB12 := hD12.below; have hBw12 := hBw11.trans (hB12.mono hBw11.size)))
          refine ⟨⟨k + 1, Y, lv', by omega, rfl, by have := HYL.out; omega, hYa, hS11.below hB12, Hlp.own_below hx11 hB12, by rw [hO10]; exact hne9', hBw12⟩, by simp [intOf]; omega⟩
        by_cases hn1 : (X.length : Int) < n
        · have hku : unK n X.length = X.length := by unfold unK; omega
          have hkz : ((unK n X.length : Nat) : Int) = (X.length : Int) := by omega
          have hKl : X.length ≤ X.length := by omega
          have hun := fun W (hb : Below wr.heap.size wr W) => undo_calls (hS.below hb) n (by omega)
          rw [hku] at hun hkz
          rw [hkz] at hun
          obtain ⟨hnwa, hnwb⟩ := news_take (Kd.C_alloc hC6 (.cells #[] 3)) X.length hKl
          have hYl : (X.take X.length).length = X.length := by rw [List.length_take]; omega
          have hYa := agree_take hag X.length
          generalize X.take X.length = Y at *
          have hilK : (ints Y).length = X.length := by simp [ints, hYl]
          have hmxK : 0 + X.length ≤ maxLen := by unfold maxLen; omega
          have hbyK : (0 + X.length) * 8 ≤ 140737488355328 := by omega
          have HYL := Aside0.mk hYl
          have hY100 : Y.length ≤ 100 := by omega
          clear hku hkz hYl
          have HIL := Aside0.mk hilK
          clear hilK
          go_wp2_with (first
            | (at_builtin; refine wpList_append_any _ _ 46 rfl w.heap.size 3 i0 (.int .i64 0) 8 Try.underlying46 hi hz0 hz1 hz2 rfl _ 0 [] rfl hmade p6 (X.length) c6 (ints Y) rfl HIL.out hnwa hnwb (ints_one _) hmxK hbyK hsza rfl ?_; intro v9 w9 hown9 hgrow9 hat9; obtain ⟨hown9', hB9, hne9⟩ := after_lit HYL.out hown9 hgrow9 hat9; obtain ⟨p9, c9, e9, hc9, hC9⟩ := C_of_ints hown9'; subst e9; have hun9 := hun w9 hB9; have hne9' := hfar _ hne9)
            | (go_at_call 41; with_reducible refine hun9.mono ?_; rintro e w10 ⟨lv', rfl, hS10, hB10, hK10, hO10⟩; have hx10 := keep_row hK10 hown9' hne9'; have hBw10 := (hB.trans (hB9.mono hB.size)).trans (hB10.mono hwb); have has10 := asserted_calls hS10 hY100)
            | (go_at_call 45; with_reducible refine has10.mono ?_; rintro e w11 ⟨v11, rfl, hown11, hB11⟩; obtain ⟨p11, c11, e11, hc11, hC11⟩ := C_of_ints hown11; subst e11; have hx11 := Hlp.own_below hx10 hB11; have hs11 := same_calls (by omega) hC11 hc11 (C_at hx11) hc9; have hBw11 := hBw10.trans (hB11.mono hBw10.size); have hS11 := hS10.below hB11)
            | (go_at_call 44; with_reducible refine hs11.mono ?_; rintro e w12 ⟨rfl, hD12⟩; have hB12 := hD12.below; have hBw12 := hBw11.trans (hB12.mono hBw11.size)))
          refine ⟨⟨k + 1, Y, lv', by omega, rfl, by have := HYL.out; omega, hYa, hS11.below hB12, Hlp.own_below hx11 hB12, by rw [hO10]; exact hne9', hBw12⟩, by simp [intOf]; omega⟩
        · have hku : unK n X.length = n.toNat := by unfold unK; omega
          have hkz : ((unK n X.length : Nat) : Int) = n := by omega
          have hKl : n.toNat ≤ X.length := by omega
          have hun := fun W (hb : Below wr.heap.size wr W) => undo_calls (hS.below hb) n (by omega)
          rw [hku] at hun hkz
          rw [hkz] at hun
          obtain ⟨hnwa, hnwb⟩ := news_take (Kd.C_alloc hC6 (.cells #[] 3)) n.toNat hKl
          have hYl : (X.take n.toNat).length = n.toNat := by rw [List.length_take]; omega
          have hYa := agree_take hag n.toNat
          generalize X.take n.toNat = Y at *
          have hilK : (ints Y).length = n.toNat := by simp [ints, hYl]
          have hmxK : 0 + n.toNat ≤ maxLen := by unfold maxLen; omega
          have hbyK : (0 + n.toNat) * 8 ≤ 140737488355328 := by omega
          have HYL := Aside0.mk hYl
          have hY100 : Y.length ≤ 100 := by omega
          clear hku hkz hYl
          have HIL := Aside0.mk hilK
          clear hilK
          go_wp2_with (first
            | (at_builtin; refine wpList_append_any _ _ 46 rfl w.heap.size 3 i0 (.int .i64 0) 8 Try.underlying46 hi hz0 hz1 hz2 rfl _ 0 [] rfl hmade p6 (n.toNat) c6 (ints Y) rfl HIL.out hnwa hnwb (ints_one _) hmxK hbyK hsza rfl ?_; intro v9 w9 hown9 hgrow9 hat9; obtain ⟨hown9', hB9, hne9⟩ := after_lit HYL.out hown9 hgrow9 hat9; obtain ⟨p9, c9, e9, hc9, hC9⟩ := C_of_ints hown9'; subst e9; have hun9 := hun w9 hB9; have hne9' := hfar _ hne9)
            | (go_at_call 41; with_reducible refine hun9.mono ?_; rintro e w10 ⟨lv', rfl, hS10, hB10, hK10, hO10⟩; have hx10 := keep_row hK10 hown9' hne9'; have hBw10 := (hB.trans (hB9.mono hB.size)).trans (hB10.mono hwb); have has10 := asserted_calls hS10 hY100)
            | (go_at_call 45; with_reducible refine has10.mono ?_; rintro e w11 ⟨v11, rfl, hown11, hB11⟩; obtain ⟨p11, c11, e11, hc11, hC11⟩ := C_of_ints hown11; subst e11; have hx11 := Hlp.own_below hx10 hB11; have hs11 := same_calls (by omega) hC11 hc11 (C_at hx11) hc9; have hBw11 := hBw10.trans (hB11.mono hBw10.size); have hS11 := hS10.below hB11)
            | (go_at_call 44; with_reducible refine hs11.mono ?_; rintro e w12 ⟨rfl, hD12⟩; have hB12 := hD12.below; have hBw12 := hBw11.trans (hB12.mono hBw11.size)))
          refine ⟨⟨k + 1, Y, lv', by omega, rfl, by have := HYL.out; omega, hYa, hS11.below hB12, Hlp.own_below hx11 hB12, by rw [hO10]; exact hne9', hBw12⟩, by simp [intOf]; omega⟩
      · by_cases hE : asE l X n = 0
        · have hAs := assertP_calls hS n hxa hs (by omega) hag
          have h43 := fun (W : World) (hb : Below w.heap.size w W) (hC : Kd.C (Kd.int .i64) W p6 X.length X) => assert15_calls (Kd.C_below hr0 hb) hc0 hs hC hc6 (by omega) hag.1 n hxa
          have hag' := agree_as hag n
          have hCl := asC_len l X n
          have hEi := asE_in l X n
          rw [(asL_of l X n).1 hE] at hAs hag'
          rw [hE] at hAs h43
          generalize asC l X n = C at hAs h43 hCl
          have hYk : (X ++ [n]).length ≤ k + 1 := by rw [List.length_append, List.length_singleton]; omega
          generalize X ++ [n] = Y at hAs h43 hag' hYk
          clear hE hEi
          have hY100 : Y.length ≤ 100 := by omega
          have hC1000 : C.length ≤ 1000000000 := by omega
          have hS' := hS
          go_wp2_with (first
            | (go_at_call 42; with_reducible refine hAs.mono ?_; rintro e w5 ⟨v5, lv', rfl, hown5, hS5, hBb5, hK5, hO5⟩; have hBw5 := hB.trans (hBb5.mono hwb); have hx5 := keep_row hK5 hown hne; obtain ⟨p5, c5, e5, hc5, hC5⟩ := C_of_ints hown5; subst e5; have h43a := h43 w5 hBw5 (C_at hx5))
            | (go_at_call 43; with_reducible refine h43a.mono ?_; rintro e w6 ⟨vx, v7, rfl, _, h0e, hown7, hB6⟩; have hownx := h0e (by first | trivial | rfl); have hBw6 := hBw5.trans (hB6.mono hBw5.size); obtain ⟨p7, c7, e7, hc7, hC7⟩ := C_of_ints hown7; subst e7; obtain ⟨px, cx, ex, hcx, hCx⟩ := C_of_ints hownx; subst ex; have hs6 := same_calls hC1000 (Kd.C_below hC5 hB6) hc5 hC7 hc7; have hS6 := hS5.below hB6)
            | (go_at_call 44; with_reducible refine hs6.mono ?_; rintro e w8 ⟨rfl, hD8⟩; have hB8 := hD8.below; have hBw8 := hBw6.trans (hB8.mono hBw6.size); have hS8 := hS6.below hB8; have has8 := asserted_calls hS8 hY100)
            | (go_at_call 45; with_reducible refine has8.mono ?_; rintro e w9 ⟨v9, rfl, hown9, hB9⟩; obtain ⟨p9, c9, e9, hc9, hC9⟩ := C_of_ints hown9; subst e9; have hBw9 := hBw8.trans (hB9.mono hBw8.size); have hS9 := hS8.below hB9; have hx9 := Hlp.own_below (Hlp.own_below hownx hB8) hB9; have hs9 := same_calls (by omega) hC9 hc9 (C_at hx9) hcx)
            | (go_at_call 44; with_reducible refine hs9.mono ?_; rintro e w10 ⟨rfl, hD10⟩; have hB10 := hD10.below; have hBw10 := hBw9.trans (hB10.mono hBw9.size)))
          obtain ⟨hg5, hl5⟩ := hS5.gs_lt
          refine ⟨⟨k + 1, Y, lv', by omega, rfl, hYk, hag', hS9.below hB10, Hlp.own_base (Hlp.own_below hx9 hB10) hBw5.size, fun q e => ⟨?_, fun e2 => ?_⟩, hBw10⟩, by simp [intOf]; omega⟩
          · have := (hownx.lt q e).1; omega
          · have := (hownx.lt q e).1; have := hl5 q e2.symm; omega
        · have hAs := assertP_calls hS n hxa hs (by omega) hag
          have h43 := fun (W : World) (hb : Below w.heap.size w W) (hC : Kd.C (Kd.int .i64) W p6 X.length X) => assert15_calls (Kd.C_below hr0 hb) hc0 hs hC hc6 (by omega) hag.1 n hxa
          have hag' := agree_as hag n
          have hCl := asC_len l X n
          have hEi := asE_in l X n
          rw [(asL_of l X n).2 hE] at hAs hag'
          generalize asC l X n = C at hAs h43 hCl
          generalize asE l X n = E at hAs h43 hE hEi
          have hY100 : X.length ≤ 100 := by omega
          have hC1000 : C.length ≤ 1000000000 := by omega
          have hS' := hS
          go_wp2_with (first
            | (go_at_call 42; with_reducible refine hAs.mono ?_; rintro e w5 ⟨v5, lv', rfl, hown5, hS5, hBb5, hK5, hO5⟩; have hBw5 := hB.trans (hBb5.mono hwb); have hx5 := keep_row hK5 hown hne; obtain ⟨p5, c5, e5, hc5, hC5⟩ := C_of_ints hown5; subst e5; have h43a := h43 w5 hBw5 (C_at hx5))
            | (go_at_call 43; with_reducible refine h43a.mono ?_; rintro e w6 ⟨vx, v7, rfl, h0n, _, hown7, hB6⟩; have ex := h0n hE; subst ex; have hownx := Hlp.own_below hx5 hB6; have hcx := hc6; have hCx := C_at hownx; have hBw6 := hBw5.trans (hB6.mono hBw5.size); obtain ⟨p7, c7, e7, hc7, hC7⟩ := C_of_ints hown7; subst e7; have hs6 := same_calls hC1000 (Kd.C_below hC5 hB6) hc5 hC7 hc7; have hS6 := hS5.below hB6)
            | (go_at_call 44; with_reducible refine hs6.mono ?_; rintro e w8 ⟨rfl, hD8⟩; have hB8 := hD8.below; have hBw8 := hBw6.trans (hB8.mono hBw6.size); have hS8 := hS6.below hB8; have has8 := asserted_calls hS8 hY100)
            | (go_at_call 45; with_reducible refine has8.mono ?_; rintro e w9 ⟨v9, rfl, hown9, hB9⟩; obtain ⟨p9, c9, e9, hc9, hC9⟩ := C_of_ints hown9; subst e9; have hBw9 := hBw8.trans (hB9.mono hBw8.size); have hS9 := hS8.below hB9; have hx9 := Hlp.own_below (Hlp.own_below hownx hB8) hB9; have hs9 := same_calls (by omega) hC9 hc9 (C_at hx9) hcx)
            | (go_at_call 44; with_reducible refine hs9.mono ?_; rintro e w10 ⟨rfl, hD10⟩; have hB10 := hD10.below; have hBw10 := hBw9.trans (hB10.mono hBw9.size)))
          refine ⟨⟨k + 1, X, lv', by omega, rfl, by omega, hag', hS9.below hB10, Hlp.own_below hx9 hB10, fun q e => ⟨(hne q e).1, fun e2 => ?_⟩, hBw10⟩, by simp [intOf]; omega⟩
          rcases hO5 with h | ⟨q', h, h'⟩
          · exact (hne q e).2 (e2.trans h)
          · rw [h] at e2
            have := Option.some.inj e2
            have := (hown.lt q e).2
            omega
    · have hkI : ¬ (k : Int) < (acts.length : Int) := by omega
      obtain rfl : k = acts.length := by omega
      have hsl := snapK_len l X l.length
      have hsnap := snap_calls hS hs (by omega) hin (fun p hp => alwP_ne' hag p hp)
      have hsat : ∀ p : Nat, p < l.length → rd (snapK l X l.length) (p : Int) = (alwP l X (p : Int)).headD 0 := fun p hp => by
        unfold rd snapK
        rw [Int.toNat_natCast, List.getD, List.getElem?_map, List.getElem?_range hp]; rfl
      have hm1 : alwP l X (-1) = [] := by unfold alwP; rw [if_neg (by omega)]
      have hm2 : alwP l X (l.length : Int) = [] := by unfold alwP; rw [if_neg (by omega)]
      have ham1 := fun W (hb : Below wr.heap.size wr W) => alwP_calls (hS.below hb) (-1) hs (by omega) hin
      have ham2 := fun W (hb : Below wr.heap.size wr W) => alwP_calls (hS.below hb) (l.length : Int) hs (by omega) hin
      rw [hm1] at ham1
      rw [hm2] at ham2
      rw [hsl] at hsnap
      clear hm1 hm2
      generalize snapK l X l.length = S at hsnap hsat hsl
      have HSL := Aside0.mk hsl
      clear hsl
      go_wp2_with (first
        | (go_at_call 37; with_reducible refine hsnap.mono ?_; rintro e w5 ⟨v5, rfl, hown5, hB5⟩; obtain ⟨p5, c5, e5, hc5, hC5⟩ := C_of_ints (l := S) (by rw [HSL.out]; exact hown5); rw [HSL.out] at e5 hc5 hC5; subst e5; have am1 := ham1 _ hB5)
        | (go_at_call 46; with_reducible refine am1.mono ?_; rintro e w6 ⟨v6, rfl, hown6, hB6⟩; obtain ⟨q6, d6, rfl⟩ := Hlp.own_slice hown6; have hB56 := hB5.trans (hB6.mono hB5.size); have am2 := ham2 _ hB56)
        | (go_at_call 46; with_reducible refine am2.mono ?_; rintro e w7 ⟨v7, rfl, hown7, hB7⟩; obtain ⟨q7, d7, rfl⟩ := Hlp.own_slice hown7; have hB57 := hB56.trans (hB7.mono hB56.size)))
      have hCs := Kd.C_below hC5 (hB6.trans (hB7.mono hB6.size))
      go_loopw [16] (fun v16 wt => ∃ k : Nat, k ≤ l.length ∧ v16 = .int .i64 k ∧ Below w7.heap.size w7 wt) (fun v16 _ => l.length - (intOf v16).toNat)
      case atStart => exact ⟨0, Nat.zero_le _, rfl, Below.refl _ _⟩
      case round =>
        obtain ⟨p, hp, rfl, hBt⟩ := hrel
        have hBwt := hB57.trans (hBt.mono hB57.size)
        have hBw := hB.trans (hBwt.mono hB.size)
        by_cases hp1 : p < l.length
        · have hpI : (p : Int) < (l.length : Int) := by omega
          have hwant : alwP l X (p : Int) = alw l (p : Int) (ofL l (p : Int) X) := by unfold alwP; rw [if_pos ⟨by omega, hpI⟩]
          have hX6 := Hlp.own_below hown hBwt
          have hofc := refOf_calls (w := wr) (Kd.C_below hr0 hBw) hc0 hs (p : Int) p6 c6 X (C_at hX6) hc6 (by omega) hag.1
          have hol := ofL_len l (p : Int) X
          have halc := fun W A2 c2 (hb : Below wr.heap.size wr W) hC hc => refAllowed_calls (w := W) (Kd.C_below hr0 (hBw.trans (hb.mono hBw.size))) hc0 hs (p : Int) (by omega) hpI A2 c2 (ofL l (p : Int) X) hC hc (by omega)
          have hsal := fun W (hb : Below wr.heap.size wr W) => alwP_calls (hS.below (hBwt.trans (hb.mono hBwt.size))) (p : Int) hs (by omega) hin
          have hsr := hsat p hp1
          obtain ⟨ad, rfl, hcell⟩ := Kd.at_int (Kd.C_below hCs hBt) (p : Int) (by omega) hpI
          rw [Int.toNat_natCast, hsr, hwant] at hcell
          rw [hwant] at hsal
          have hne1 := hag.2 (p : Int)
          have hWl : (alw l (p : Int) (ofL l (p : Int) X)).length ≤ 1000000000 := by
            have h1 := alwK_len l (ofL l (p : Int) X) ((sizeP l (p : Int)).toNat + 1)
            have h2 : sizeP l (p : Int) ≤ 16777216 := by
              unfold sizeP; rw [if_pos ⟨by omega, hpI⟩, Int.toNat_natCast]
              exact (hs.2.1 _ (by rw [List.getD, List.getElem?_eq_getElem hp1]; exact List.getElem_mem _)).2
            unfold alw
            omega
          clear hwant hsr hsat
          generalize alw l (p : Int) (ofL l (p : Int) X) = Wl at *
          generalize ofL l (p : Int) X = O at *
          have HH : (ints Wl)[0]? = some (.int .i64 (Wl.headD 0)) := by
            cases Wl with
            | nil => exact absurd rfl hne1
            | cons a b => rfl
          have hlpos : 0 < Wl.length := by
            cases Wl with
            | nil => exact absurd rfl hne1
            | cons a b => simp
          have hz : ((Wl.length : Int) == 0) = false := beq_eq_false_iff_ne.mpr (by omega)
          have hz0 : (0 : Int) < (Wl.length : Int) := by omega
          generalize Wl.headD 0 = r at *
          clear hne1
          go_wp2_with (first
            | (go_at_call 48; with_reducible refine hofc.mono ?_; rintro e w8 ⟨v8, rfl, hown8, hB8⟩; obtain ⟨p8, c8, e8, hc8, hC8⟩ := C_of_ints hown8; subst e8; have hal8 := halc _ _ _ hB8 hC8 hc8)
            | (go_at_call 47; with_reducible refine hal8.mono ?_; rintro e w9 ⟨v9, rfl, hown9, hB9⟩; obtain ⟨p9, c9, e9, hc9, hC9⟩ := C_of_ints hown9; subst e9; obtain ⟨r9, rfl⟩ := addr_of hown9 hlpos; have y0 := row_cell hown9 0 (.int .i64 r) HH; have hB89 := hB8.trans (hB9.mono hB8.size); have hcell9 := cell_below' hcell hB89))
          have hB89d := below_drew1 hB89
          have hsa9 := hsal _ hB89d
          have hcell9d := cell_below' hcell9 (below_drew1 (Below.refl _ _))
          have y0d := cell_below' y0 (below_drew1 (Below.refl _ _))
          have hC9d := Kd.C_below hC9 (below_drew1 (Below.refl _ _))
          clear y0 hcell hcell9 hofc halc hal8
          have eg46 : ∀ args w, (callFunc 46 args).run Try.prog w = .ok (.enter 46 args) w := enters_of Try.func46 (by kernel_rfl) rfl
          have eg44 : ∀ args w, (callFunc 44 args).run Try.prog w = .ok (.enter 44 args) w := enters_of Try.func44 (by kernel_rfl) rfl
          go_region_held3 (fun w' => w'.cell? (ad.add p) = some (.int .i64 r) ∧ w'.cell? ⟨r9, 0, none⟩ = some (.int .i64 r)) (first | exact ⟨hcell11, y2⟩ | exact ⟨hcell10, y1⟩ | exact ⟨hcell9d, y0d⟩)
            (first
            | (refine Hlp.step_call rfl 46 [.tmp 132, .tmp 133] #[62, 3] rfl [.pointer (some ⟨gs, 0, none⟩), .int .i64 p] rfl eg46 ?_; refine hsa9.mono ?_; rintro e w10 ⟨v10, rfl, hown10, hB10⟩; obtain ⟨p10, c10, e10, hc10, hC10⟩ := C_of_ints hown10; subst e10; have y1 := cell_below' y0d hB10; have hcell10 := cell_below' hcell9d hB10; have hs10 := same_calls hWl hC10 hc10 (Kd.C_below hC9d hB10) hc9; have hBX := hB89d.trans (hB10.mono hB89d.size); refine ⟨_, rfl, ?_⟩)
            | (refine Hlp.step_call rfl 44 [.tmp 134, .tmp 135] #[46, 46] rfl [.slice p10 Wl.length c10, .slice (some ⟨r9, 0, none⟩) Wl.length c9] rfl eg44 ?_; refine hs10.mono ?_; rintro e w11 ⟨rfl, hD11⟩; have hB11 := hD11.below; have y2 := cell_below' y1 hB11; have hcell11 := cell_below' hcell10 hB11; refine ⟨_, rfl, ?_⟩))
          all_goals
            go_wp2
            exact ⟨⟨p + 1, by omega, rfl, hBt.trans ((hBX.trans (hB11.mono hBX.size)).mono hBt.size)⟩, by simp [intOf]; omega⟩
        · have hpI : ¬ (p : Int) < (l.length : Int) := by omega
          go_wp2
          go_ret
          exact ⟨rfl, hBw⟩
end Go.Proofs.Ytcebjhbphcoboaa.Ato
