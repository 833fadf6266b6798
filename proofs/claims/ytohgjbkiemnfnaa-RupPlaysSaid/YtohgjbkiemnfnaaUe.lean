/- Units; Follows. Walks by hand. -/
import Derived.Test.YtohgjbkiemnfnaaUcd
import Derived.Test.YtohgjbkiemnfnaaApx
namespace Go.Proofs.Ytohgjbkiemnfnaa.Rup
open Go.WideElems (rg)
open Go Go.RowKit Go.Maps Go.Proofs.Ytohgjbkiemnfnaa.R Go.Proofs.Ytohgjbkiemnfnaa.Hlp Go.Proofs.Ytohgjbkiemnfnaa.Aid Go.Proofs.Ytohgjbkiemnfnaa.Clause12 Go.Proofs.Ytohgjbkiemnfnaa.Clean12 Go.Proofs.YtohgjbkiemnfnaaW.PrintWords Go.Proofs.YtohgjbkiemnfnaaW.PrintLast Go.Proofs.YtohgjbkiemnfnaaW.PrintMore
attribute [local go_sem] max2_int min2_int max_two min_two
set_option linter.unusedVariables false
set_option linter.unusedSimpArgs false
def ints (l : List Int) : List Value := l.map (Value.int .i64)
theorem infoI' : (Try.prog.info? 3).map (fun i => (i.zero, i.size, i.bytes)) = some (some (.int .i64 0), 1, 8) := by kernel_rfl
theorem own_of_R {w : World} {base : Nat} {ok : Nat → Prop} {v : Value} {l : List Int} (h : Kd.R (Kd.int .i64) 3 w base ok v l) : w.ownsRow base 3 1 v l.length (ints l) := by
  obtain ⟨h0, inner, ho, hr⟩ := h
  obtain rfl := Kd.reps_encs hr
  exact ho
theorem R_of_own {W : World} {base : Nat} {v : Value} {l : List Int} {ok : Nat → Prop} (h : W.ownsRow base 3 1 v l.length (ints l)) (hk : ∀ k, v.ownBlock = some k → ok k) : Kd.R (Kd.int .i64) 3 W base ok v l :=
  ⟨hk, encs (Value.int .i64) l, ⟨by show (encs (Value.int .i64) l).length = l.length * 1; simp [encs], h.2⟩, Kd.reps_scalar l⟩
theorem C_of_ints {w : World} {base : Nat} {v : Value} {l : List Int} (h : w.ownsRow base 3 1 v l.length (ints l)) : ∃ A c, v = .slice A l.length c ∧ l.length ≤ c ∧ Kd.C (Kd.int .i64) w A l.length l := by
  obtain ⟨p, c, rfl⟩ := Hlp.own_slice h
  have hR : Kd.R (Kd.int .i64) 3 w base (fun _ => True) (.slice p l.length c) l := R_of_own h (fun _ _ => trivial)
  have := Kd.R_reads' hR
  exact ⟨p, c, rfl, this.2.1, this.2.2⟩
theorem int_app {W1 : World} {base : Nat} {v' : Value} {xs : List Int} {b : Int} (h : W1.ownsRow base 3 1 v' (xs.length + 1) (ints xs ++ [.int .i64 b])) : W1.ownsRow base 3 1 v' (xs ++ [b]).length (ints (xs ++ [b])) := by
  simpa [ints] using h
theorem FM_made (w : World) : FM (w.alloc (.map #[] 0)) w.heap.size w.heap.size 0 [] :=
  ⟨Nat.le_refl _, _, World.ownsMap_made _ _ _ _, fun v h1 h2 => ⟨rfl, rfl⟩, fun kl h => by cases h⟩
theorem key_same (v x : Int) : (vkey v).sameKey (.int .i64 x) = decide (v = x) := by
  unfold vkey
  simp [Lit.sameKey]
/-- The literal of a variable with a sign. -/
theorem lit_of {T : List Int} (hT : ∀ x ∈ T, Lit1 x) (hC : Cons T) {v : Int} (hv1 : 1 ≤ v) (h : tr T v ≠ 0) : tr T v * v ∈ T ∧ Lit1 (tr T v * v) ∧ (if tr T v * v < 0 then -(tr T v * v) else tr T v * v) = v := by
  rcases tr_cases T v with e | e | e
  · rw [e, Int.one_mul]
    have := tr_one.mp e
    exact ⟨this, hT v this, by rw [if_neg (by omega)]⟩
  · have := (tr_no hC).mp e
    rw [e, show (-1 : Int) * v = -v by omega]
    exact ⟨this, hT _ this, by rw [if_pos (by omega)]; omega⟩
  · exact absurd e h
theorem abs_lit {T : List Int} (hC : Cons T) {x : Int} (hx : x ∈ T) (h0 : x ≠ 0) : tr T (if x < 0 then -x else x) * (if x < 0 then -x else x) = x := by
  split
  · rw [tr_neg hC x h0, tr_one.mpr hx]; omega
  · rw [tr_one.mpr hx]; omega
theorem flat_left (X : List (List Int)) (T : List Int) : leftL X T ≤ X.flatten.length := List.length_filter_le ..
theorem take_snoc {c : List Int} {i : Nat} (h : i < c.length) : c.take (i + 1) = c.take i ++ [c[i]] := List.take_succ_eq_append_getElem h
set_option maxRecDepth 100000 in
theorem ranges_has {w : World} {b r n cnt : Nat} {D : DataW Unit} {left : Lit → Bool} (h : w.ranges Try.prog 3 El b r n D left cnt) {kl : Lit} (hl : left kl = true) : has D kl = true := by
  obtain ⟨es, clock, since, seen, c0, hb, hfit, hs, hD, hr, _, _, _, hle, _⟩ := id h
  obtain ⟨x, hx, e⟩ := hle kl hl
  obtain ⟨es2, e2, hpw, hk⟩ := h.owns.entries keyed
  have hkl : WideAt.IsKeyLit kl := by
    have : (rg Try.prog 3 El x) ∈ es2 := by
      have : DataW.map es2 = .map ((es.toList.map (rg Try.prog 3 El)).foldr DataW.insert []) := e2.symm.trans hD
      injection this with this
      rw [this, mem_sorted]
      exact List.mem_map_of_mem hx
    have := hk _ this
    rwa [e] at this
  rw [hD, has_eq, List.any_eq_true]
  refine ⟨rg Try.prog 3 El x, mem_sorted.mpr (List.mem_map_of_mem hx), ?_⟩
  rw [e]
  exact WideAt.sameKey_self hkl
theorem some_of {r : Option (List Int)} (h : r.isNone = false) : ∃ T, r = some T := by cases r with | none => cases h | some T => exact ⟨T, rfl⟩
theorem ranges_blk {w : World} {b r n cnt : Nat} {D : DataW Unit} {left : Lit → Bool} (h : w.ranges Try.prog 3 El b r n D left cnt) : (∃ es clock, w.heap[b]? = some (.map es clock)) ∧ ∃ m since seen c0, w.heap[r]? = some (.mapIter m since seen c0) := by
  obtain ⟨es, clock, since, seen, c0, hb, hfit, hs, hD, hr, _⟩ := h
  exact ⟨⟨es, clock, hb⟩, _, _, _, _, hr⟩
/-- An entry that comes. -/
theorem entry_of {w : World} {b r n cnt : Nat} {D : DataW Unit} {left : Lit → Bool} {T : List Int} (h : w.ranges Try.prog 3 El b r n D left cnt) (hD : FH D T) {x c : Int} (hl : left (.int .i64 x) = true) (hat : ∀ zd, D.atKey (.int .i64 x) zd = .lit (.int .i64 c)) : 1 ≤ x ∧ x ≤ 16777216 ∧ tr T x ≠ 0 ∧ c = tr T x := by
  have hh := ranges_has h hl
  obtain ⟨v, e, h1, h2⟩ := hD.2 _ hh
  unfold vkey at e
  injection e with _ e
  subst e
  obtain ⟨e1, e2⟩ := hD.1 x h1 h2
  have e3 : c = tr T x := by
    have := (hat (i64L 0)).symm.trans e1
    unfold i64L at this
    injection this with this
    injection this with _ this
  refine ⟨h1, h2, ?_, e3⟩
  have : has D (vkey x) = true := hh
  rw [e2] at this
  simpa using this
/-- What has come, behind one entry more. -/
theorem come_step {T L : List Int} {left : Lit → Bool} (hT : ∀ x ∈ T, Lit1 x) (hC : Cons T) (hA : ∀ x, x ∈ L ↔ x ∈ T ∧ left (vkey (if x < 0 then -x else x)) = false) {v : Int} (hv1 : 1 ≤ v) (h0 : tr T v ≠ 0) :
    ∀ x, x ∈ L ++ [tr T v * v] ↔ x ∈ T ∧ (left (vkey (if x < 0 then -x else x)) && !(vkey (if x < 0 then -x else x)).sameKey (.int .i64 v)) = false := by
  obtain ⟨h1, h2, h3⟩ := lit_of hT hC hv1 h0
  intro x
  rw [List.mem_append, List.mem_singleton, hA, key_same]
  by_cases e : (if x < 0 then -x else x) = v
  · rw [decide_eq_true e]
    simp only [Bool.not_true, Bool.and_false, and_true]
    refine ⟨?_, fun hx => .inr ?_⟩
    · rintro (h | h)
      · exact h.1
      · rw [h]; exact h1
    · have := abs_lit hC hx (hT x hx).1
      rw [e] at this
      exact this.symm
  · rw [decide_eq_false e]
    simp only [Bool.not_false, Bool.and_true]
    refine ⟨?_, fun hx => .inl hx⟩
    rintro (h | h)
    · exact h
    · rw [h, h3] at e; exact absurd rfl e
set_option maxHeartbeats 8000000 in
set_option maxRecDepth 100000 in
theorem units_calls {W : World} {g : Nat} {X : List (List Int)} (hS : SR W g X) (hX : ClsOk X) (hXl : X.length ≤ 1000000) {A : Option Addr} {cc : Nat} {lits : List Int} (hr : Kd.C (Kd.int .i64) W A lits.length lits) (hcc : lits.length ≤ cc) (hsz : lits.length + X.flatten.length ≤ 900000) :
    Calls Try.prog 51 #[.pointer (some ⟨g, 0, none⟩), .slice A lits.length cc] W fun e w' => ∃ v u ok, e = .returned (.tuple #[v, .bool ok]) ∧ Kd.R (Kd.int .i64) 3 w' W.heap.size (fun _ => True) v u ∧ Below W.heap.size W w' ∧ UnitsOut X lits u ok := by
  obtain ⟨i0, hi, hz0, hz1, hz2⟩ := info_parts infoI'
  obtain ⟨k, hk⟩ := (rupClean_ev lits (by omega)).rounds
  have hcl := rup_clean.calls k A cc lits (cl2 lits).1 (cl2 lits).2 W hr hcc hk
  have hok := fun h => cl2_ok (c := lits) h
  by_cases hgo : (cl2 lits).2 = true
  case neg =>
    have hU : UnitsOut X lits [] false := by unfold UnitsOut; rw [if_neg hgo]; exact ⟨rfl, rfl⟩
    rw [Bool.eq_false_iff.mpr hgo] at hcl
    go_enter Try.func51, Try.ntmps51
    go_wp2_with (go_at_call 81; with_reducible refine hcl.mono ?_; rintro e w1 ⟨v1, rfl, hR1, hB1⟩)
    go_ret2
    exact ⟨_, [], false, rfl, Kd.R_nil _ _ _ _ _, hB1, hU⟩
  case pos =>
    obtain ⟨hm, hL, hrise, hC, hlen, _⟩ := hok hgo
    rw [hgo] at hcl
    have hUO : ∀ u ok, (∃ r, Out X (cl2 lits).1 r ∧ ok = r.isSome ∧ (r = none → u = []) ∧ ∀ T, r = some T → u = (cleanP T).1) → UnitsOut X lits u ok := fun u ok h => by unfold UnitsOut; rw [if_pos hgo]; exact h
    generalize (cl2 lits).1 = c at *
    clear hok hm hk hrise
    have HUO := Aside0.mk hUO
    clear hUO
    have hmm := @run_makeMap Try.prog
    go_enter Try.func51, Try.ntmps51
    go_wp2_with (go_at_call 81; with_reducible refine hcl.mono ?_; rintro e w1 ⟨v1, rfl, hR1, hB1⟩; obtain ⟨A1, c1, rfl⟩ := Kd.R_slice hR1)
    have hc1 := Kd.R_reads' hR1
    have hF0 := FM_made w1
    have hBm : Below w1.heap.size w1 (w1.alloc (.map #[] 0)) := (Below.refl _ _).alloc (Nat.le_refl _) _
    have hbm : W.heap.size ≤ w1.heap.size := hB1.size
    go_loopw [21] (fun v21 wr => ∃ i : Nat, i ≤ c.length ∧ v21 = .int .i64 i ∧ FM wr w1.heap.size w1.heap.size i (c.take i) ∧ Below w1.heap.size w1 wr)
      (fun v21 _ => c.length - (intOf v21).toNat)
    case atStart => exact ⟨0, Nat.zero_le _, rfl, hF0, hBm⟩
    case round =>
      obtain ⟨i, hi0, rfl, hF, hB⟩ := hrel
      by_cases hi1 : i < c.length
      · have hiI : (i : Int) < (c.length : Int) := by omega
        obtain ⟨ad, rfl, hcell⟩ := Kd.at_int (Kd.C_below hc1.2.2 hB) (i : Int) (by omega) hiI
        rw [Int.toNat_natCast, rd_nat c i hi1] at hcell
        have hlit := hL _ (List.getElem_mem hi1)
        have hno : -c[i] ∉ c.take i := fun h => hC _ (List.getElem_mem hi1) (List.mem_of_mem_take h)
        have hsn := Aside0.mk (take_snoc hi1)
        generalize c[i] = x at *
        have htk := take_calls hF x hlit hno (by unfold maxLen; omega)
        go_wp2_with (go_at_call 83; with_reducible refine htk.mono ?_; rintro e w3 ⟨rfl, hF3, hG3⟩; rw [← hsn.out] at hF3)
        exact ⟨⟨i + 1, hi1, rfl, hF3, hB.grown hG3 hB.size (fun q e => by cases e; exact hF.1)⟩, by simp [intOf]; omega⟩
      · have hiI : ¬ (i : Int) < (c.length : Int) := by omega
        rw [List.take_of_length_le (by omega)] at hF
        have hfl := flat_left X c
        have hFb : FM wr w1.heap.size w1.heap.size i c := hF
        have hcs := close_calls (W0 := w1) (hS.below hB1) hX hXl hB hF hC 900000 (by omega) (by decide)
        go_wp2_with (first
          | (go_at_call 84; with_reducible refine hcs.mono ?_; rintro e w4 ⟨r, hO, rfl, hB4, hG4, hT4⟩)
          | (at_range; obtain ⟨T, rfl⟩ := some_of (by assumption); obtain ⟨n', hF4, hn'⟩ := hT4 T rfl; obtain ⟨hb4, D, hown4, hD⟩ := id hF4; refine wpList_range_own _ rfl _ 91 rfl 3 3 keyed Try.underlying91 El w1.heap.size n' D rfl hown4 ?_; intro w5 hrg5 hg5 hs5))
        · cases r with
          | some T => rename_i hq; simp at hq
          | none =>
            go_ret2
            exact ⟨_, [], false, rfl, Kd.R_nil _ _ _ _ _, hB1.trans (hB4.mono hbm), HUO.out [] false ⟨none, hO, rfl, fun _ => rfl, fun T h => (by cases h)⟩⟩
        · have hTL : ∀ x ∈ T, Lit1 x := fun x hx => hO.2.2.1 x hx Lit1 hL fun c hc x hx _ => (hX c hc).2.1 x hx
          have hTC := hO.2.1
          have hsize := hown4.size_le
          have hlt4 : w1.heap.size < w4.heap.size := hF4.lt.2
          have hBw4 := hB1.trans (hB4.mono hbm)
          clear hT4 hcs hF hFb hfl
          go_frame
          go_loopw [4] (fun v4 wq => ∃ left cnt, ∃ L : List Int, wq.ranges Try.prog 3 El w1.heap.size w4.heap.size n' D left cnt ∧ wq.ownsRow W.heap.size 3 1 v4 L.length (ints L) ∧ Aside0 (∀ x, x ∈ L ↔ x ∈ T ∧ left (vkey (if x < 0 then -x else x)) = false) ∧ L.length + cnt ≤ 900000 ∧ Below W.heap.size W wq)
            (fun _ wq => wq.rangeLeft w1.heap.size w4.heap.size)
          case atStart =>
            refine ⟨_, _, [], hrg5, World.ownsRow_nil _ _ _ _, ⟨fun x => ⟨fun h => (by cases h), fun ⟨hx, hh⟩ => ?_⟩⟩, by simp; omega, hBw4.grown hg5 hBw4.size (fun q e => by cases e)⟩
            have hl := hTL x hx
            have h1 := hD.1 (if x < 0 then -x else x) (by obtain ⟨a, b, c⟩ := hl; split <;> omega) (by obtain ⟨a, b, c⟩ := hl; split <;> omega)
            rw [hh] at h1
            exfalso
            have h2 := abs_lit hTC hx hl.1
            have h3 : tr T (if x < 0 then -x else x) = 0 := by simpa using h1.2.symm
            rw [h3] at h2
            exact hl.1 (by omega)
          case round =>
            obtain ⟨left, cnt, L, hrg, hown, HA, hLc, hB⟩ := hrel
            obtain ⟨⟨es, clock, hmb⟩, mm, since, seen, c0, hrb⟩ := ranges_blk hrg
            obtain ⟨p4, c4, rfl⟩ := Hlp.own_slice hown
            have hneb : (Value.slice p4 L.length c4).ownBlock ≠ some w1.heap.size := (Hlp.own_ne hown hmb (by intro cs e; cases e)).symm
            have hner : (Value.slice p4 L.length c4).ownBlock ≠ some w4.heap.size := (Hlp.own_ne hown hrb (by intro cs e; cases e)).symm
            go_wp2_with (at_next; refine wpList_next_ranges_ii _ rfl _ rfl 3 3 .i64 .i64 keyed Try.underlying3 Try.underlying3 w1.heap.size w4.heap.size n' D left cnt rfl hrg ?_ ?_)
            · intro hc0 hl0
              have hLT : ∀ x, x ∈ L ↔ x ∈ T := fun x => by rw [HA.out x]; exact ⟨fun h => h.1, fun h => ⟨h, hl0 _⟩⟩
              have hLC : Cons L := fun x hx hn => hTC x ((hLT x).mp hx) ((hLT _).mp hn)
              have hcT := clean_same hLT hLC
              obtain ⟨kc, hkc⟩ := (clean_ev L (by omega)).rounds
              have hown' := C_of_ints hown
              obtain ⟨A7, c7, e7, hc7, hC7⟩ := hown'
              cases e7
              have hcc := clause_Clean.calls kc _ _ L (cleanP L).1 (cleanP L).2 wr hC7 hc7 hkc
              have HLT := Aside0.mk hLT
              clear hLT
              go_wp2_with (go_at_call 33; with_reducible refine hcc.mono ?_; rintro e w7 ⟨v7, rfl, hR7, hB7⟩)
              go_ret2
              refine ⟨_, (cleanP L).1, true, rfl, Kd.R_lower hR7 hB.size, hB.trans (hB7.mono hB.size), HUO.out _ true ⟨some T, hO, rfl, fun h => (by cases h), fun T' e => ?_⟩⟩
              obtain rfl := Option.some.inj e
              rw [hcT]
            · intro x c w6 cnt1 hwx hwc hlx hat hrg6 hlt6 hg6 hs6 hen
              obtain ⟨hx1, hx2, htr, hce⟩ := entry_of hrg hD hlx hat
              have hcs := come_step hTL hTC HA.out hx1 htr
              rw [← hce] at hcs
              have hyl := lit_of hTL hTC hx1 htr
              rw [← hce] at hyl
              have hyr := hyl.2.1
              have HCS := Aside0.mk hcs
              have hyw : IntKind.i64.wrap (c * x) = c * x := (i64_w _).trans (wrap64_in (by have := hyr.2.1; omega) (by have := hyr.2.2; omega))
              clear hcs hyl hat hce
              have HS6 := Aside0.mk hs6
              have hown6 := hown.kept hg6 (.inr hner)
              have h63 : L.length + 1 ≤ maxLen := by unfold maxLen; omega
              have hby : (L.length + 1) * 8 ≤ 140737488355328 := by omega
              have hsz6 : W.heap.size ≤ (w6.alloc (.cells #[.int .i64 (c * x)] 3)).heap.size := by have := hB.size; simp; omega
              clear hs6
              go_wp2_with (at_builtin; refine wpList_append_own_at _ rfl _ _ 22 rfl W.heap.size 3 i0 (.int .i64 0) 1 8 Try.underlying22 hi hz0 hz1 hz2 rfl (by decide) _ _ _ rfl (hown6.alloc _) ⟨w6.heap.size, 0, none⟩ 1 1 [.int .i64 (c * x)] rfl rfl (cell_one_new _ _ _) (by simp [Value.oneCell']) h63 hby hsz6 ?_; intro v7 w7 hown7 hg7 hnil7 hloc7; go_frame)
              have hB7 := ((hB.grown hg6 hB.size (fun q e => by cases e; exact Nat.le_of_lt (Nat.lt_of_le_of_lt hbm hlt4))).alloc (by rw [HS6.out]; exact hB.size) (.cells #[.int .i64 (c * x)] 3)).grown hg7 hsz6 (fun q e => (hown6.lt q e).1)
              have hrg7 := (hrg6.alloc (.cells #[.int .i64 (c * x)] 3)).kept hg7 hneb.symm hner.symm
              have hown8 := int_app hown7
              go_roundw
              case rel =>
                iterate 14 apply Exists.intro
                refine ⟨?re, ?fr⟩
                case fr => rfl
                exact ⟨_, cnt1, L ++ [c * x], hrg7, hown8, HCS, by rw [List.length_append, List.length_singleton]; omega, hB7⟩
              case measure => rw [hrg7.left_eq, hrg.left_eq]; exact hlt6
def negs (c : List Int) : List Int := c.map fun x => -x
/-- Whether a clause follows. -/
def Fol (X : List (List Int)) (c : List Int) (b : Bool) : Prop := if gd c = true then ∃ u ok, UnitsOut X (negs c) u ok ∧ b = !ok else b = false
theorem Fol.one {X : List (List Int)} {c : List Int} {b b' : Bool} (h : Fol X c b) (h' : Fol X c b') : b = b' := by
  unfold Fol at h h'
  by_cases hg : gd c = true
  · rw [if_pos hg] at h h'
    obtain ⟨u, ok, hU, rfl⟩ := h
    obtain ⟨u', ok', hU', rfl⟩ := h'
    rw [(hU.one hU').2]
  · rw [if_neg hg] at h h'
    exact h.trans h'.symm
theorem negs_snoc {c : List Int} {i : Nat} (h : i < c.length) : negs (c.take (i + 1)) = negs (c.take i) ++ [-c[i]] := by unfold negs; rw [take_snoc h, List.map_append]; rfl
set_option maxHeartbeats 4000000 in
set_option maxRecDepth 100000 in
theorem follows_calls {W : World} {g : Nat} {X : List (List Int)} (hS : SR W g X) (hX : ClsOk X) (hXl : X.length ≤ 1000000) {A : Option Addr} {cc : Nat} {c : List Int} (hr : Kd.C (Kd.int .i64) W A c.length c) (hcc : c.length ≤ cc) (hsz : c.length + X.flatten.length ≤ 900000) :
    Calls Try.prog 45 #[.pointer (some ⟨g, 0, none⟩), .slice A c.length cc] W fun e w' => ∃ b, e = .returned (.bool b) ∧ Below W.heap.size W w' ∧ Fol X c b := by
  obtain ⟨i0, hi, hz0, hz1, hz2⟩ := info_parts infoI'
  have hgc := clause_Good.calls A cc c 16777216 (gd c) W hr hcc rfl
  by_cases hg : gd c = true
  case neg =>
    have hF : Fol X c false := by unfold Fol; rw [if_neg hg]
    rw [Bool.eq_false_iff.mpr hg] at hgc
    go_enter Try.func45, Try.ntmps45
    go_wp2_with (go_at_call 36; with_reducible refine hgc.mono ?_; rintro e w1 ⟨rfl, hB1⟩)
    go_ret
    exact ⟨false, rfl, hB1, hF⟩
  case pos =>
    have hLit := (gd_iff c).mp hg
    have hFo : ∀ u ok, UnitsOut X (negs c) u ok → Fol X c (!ok) := fun u ok h => by unfold Fol; rw [if_pos hg]; exact ⟨u, ok, h, rfl⟩
    have HFO := Aside0.mk hFo
    clear hFo
    rw [hg] at hgc
    go_enter Try.func45, Try.ntmps45
    go_wp2_with (go_at_call 36; with_reducible refine hgc.mono ?_; rintro e w1 ⟨rfl, hB1⟩)
    go_loopw [5, 15] (fun v5 v15 wr => ∃ i : Nat, i ≤ c.length ∧ v15 = .int .i64 i ∧ wr.ownsRow W.heap.size 3 1 v5 i (ints (negs (c.take i))) ∧ Below W.heap.size W wr)
      (fun _ v15 _ => c.length - (intOf v15).toNat)
    case atStart => exact ⟨0, Nat.zero_le _, rfl, World.ownsRow_nil _ _ _ _, hB1⟩
    case round =>
      obtain ⟨i, hi0, rfl, hown, hB⟩ := hrel
      obtain ⟨p5, c5, rfl⟩ := Hlp.own_slice hown
      by_cases hi1 : i < c.length
      · have hiI : (i : Int) < (c.length : Int) := by omega
        obtain ⟨ad, rfl, hcell⟩ := Kd.at_int (Kd.C_below hr hB) (i : Int) (by omega) hiI
        rw [Int.toNat_natCast, rd_nat c i hi1] at hcell
        have hlit := hLit _ (List.getElem_mem hi1)
        have hsn := Aside0.mk (negs_snoc hi1)
        generalize c[i] = x at *
        have hnx : IntKind.i64.wrap (-x) = -x := (i64_w _).trans (wrap64_in (by obtain ⟨_, _, _⟩ := hlit; omega) (by obtain ⟨_, _, _⟩ := hlit; omega))
        have h63 : i + 1 ≤ maxLen := by unfold maxLen; omega
        have hby : (i + 1) * 8 ≤ 140737488355328 := by omega
        have hsz6 : W.heap.size ≤ (wr.alloc (.cells #[.int .i64 (-x)] 3)).heap.size := by have := hB.size; simp; omega
        go_wp2_with (at_builtin; refine wpList_append_own_at _ rfl _ _ 22 rfl W.heap.size 3 i0 (.int .i64 0) 1 8 Try.underlying22 hi hz0 hz1 hz2 rfl (by decide) _ _ _ rfl (hown.alloc _) ⟨wr.heap.size, 0, none⟩ 1 1 [.int .i64 (-x)] rfl rfl (cell_one_new _ _ _) (by simp [Value.oneCell']) h63 hby hsz6 ?_; intro v7 w7 hown7 hg7 hnil7 hloc7)
        have hB7 := (hB.alloc hB.size (.cells #[.int .i64 (-x)] 3)).grown hg7 hsz6 (fun q e => (hown.lt q e).1)
        have hown8 : w7.ownsRow W.heap.size 3 1 v7 (i + 1) (ints (negs (c.take (i + 1)))) := by rw [hsn.out]; simpa [ints] using hown7
        exact ⟨⟨i + 1, hi1, rfl, hown8, hB7⟩, by simp [intOf]; omega⟩
      · have hiI : ¬ (i : Int) < (c.length : Int) := by omega
        obtain rfl : i = c.length := by omega
        rw [List.take_of_length_le (Nat.le_refl _)] at hown
        have hln : (negs c).length = c.length := by unfold negs; simp
        rw [← hln] at hown
        obtain ⟨A5, c5', e5, hc5, hC5⟩ := C_of_ints hown
        rw [hln] at e5
        cases e5
        have huc := units_calls (hS.below hB) hX hXl hC5 hc5 (by rw [hln]; exact hsz)
        rw [hln] at huc
        go_wp2_with (go_at_call 51; with_reducible refine huc.mono ?_; rintro e w8 ⟨v8, u, ok, rfl, hR8, hB8, hU8⟩)
        go_ret
        exact ⟨_, rfl, hB.trans (hB8.mono hB.size), HFO.out u ok hU8⟩
end Go.Proofs.Ytohgjbkiemnfnaa.Rup
