/- The table of atoms: the truths of a choice, and an atom's variable. Walks by hand. -/
import Derived.Test.YtohgjbkiemnfnaaAto
namespace Go.Proofs.Ytohgjbkiemnfnaa.Ato
open Go Go.RowKit Go.Proofs.Ytohgjbkiemnfnaa.X Go.Proofs.Ytohgjbkiemnfnaa.Hlp Go.Proofs.YtohgjbkiemnfnaaW.PrintWords Go.Proofs.YtohgjbkiemnfnaaW.PrintLast Go.Proofs.YtohgjbkiemnfnaaW.PrintMore
attribute [local go_sem] max2_int min2_int max_two min_two
set_option linter.unusedVariables false
set_option linter.unusedSimpArgs false
theorem info4 : (Try.prog.info? 4).map (fun i => (i.zero, i.size, i.bytes)) = some (some (.bool false), 1, 1) := by kernel_rfl
def bools (l : List Bool) : List Value := l.map Value.bool
set_option maxRecDepth 100000 in
theorem says0 (r : Int) (w : World) : Calls Try.prog 57 #[.agg #[.int .i64 0, .int .i64 0, .int .i64 0], .int .i64 r] w fun e w' => e = .returned (.bool (decide (0 ≤ r))) ∧ Below w.heap.size w w' := by
  go_enter Try.func57, Try.ntmps57
  go_wp2
  go_ret
  exact ⟨rfl, (Below.refl _ _).alloc (Nat.le_refl _) _⟩
set_option maxRecDepth 100000 in
theorem says1 (k r : Int) (w : World) : Calls Try.prog 57 #[.agg #[.int .i64 1, .int .i64 0, .int .i64 k], .int .i64 r] w fun e w' => e = .returned (.bool (decide (r ≤ k))) ∧ Below w.heap.size w w' := by
  go_enter Try.func57, Try.ntmps57
  go_wp2
  go_ret
  exact ⟨rfl, (Below.refl _ _).alloc (Nat.le_refl _) _⟩
set_option maxRecDepth 100000 in
theorem says2 (k r : Int) (w : World) : Calls Try.prog 57 #[.agg #[.int .i64 2, .int .i64 0, .int .i64 k], .int .i64 r] w fun e w' => e = .returned (.bool (decide (r = k))) ∧ Below w.heap.size w w' := by
  go_enter Try.func57, Try.ntmps57
  go_wp2
  go_ret
  exact ⟨rfl, (Below.refl _ _).alloc (Nat.le_refl _) _⟩

/-- A package's truths: whether it is there; is at most a rank; is a rank. -/
def lows (n r : Int) (k : Nat) : List Bool := (List.range k).map fun (i : Nat) => decide (r ≤ (i : Int))
def eqs (r : Int) (k : Nat) : List Bool := (List.range k).map fun (i : Nat) => decide (r = (i : Int))
def blk (n r : Int) : List Bool := [decide (0 ≤ r)] ++ lows n r (n - 1).toNat ++ eqs r n.toNat
def tr (l ch : List Int) : Nat → List Bool
  | 0 => []
  | k + 1 => tr l ch k ++ blk (l.getD k 0) (ch.getD k 0)
def okc (l ch : List Int) (k : Nat) : Prop := -1 ≤ ch.getD k 0 ∧ ch.getD k 0 < l.getD k 0
open Classical in
noncomputable def outL (l ch : List Int) : List Bool := if ch.length = l.length ∧ ∀ p, p < l.length → okc l ch p then tr l ch l.length else []
theorem lows_succ (n r : Int) (k : Nat) : lows n r (k + 1) = lows n r k ++ [decide (r ≤ (k : Int))] := by simp [lows, List.range_succ]
theorem eqs_succ (r : Int) (k : Nat) : eqs r (k + 1) = eqs r k ++ [decide (r = (k : Int))] := by simp [eqs, List.range_succ]
theorem lows_len (n r : Int) (k : Nat) : (lows n r k).length = k := by simp [lows]
theorem eqs_len (r : Int) (k : Nat) : (eqs r k).length = k := by simp [eqs]
theorem blk_len (n r : Int) : (blk n r).length = 1 + (n - 1).toNat + n.toNat := by simp [blk, lows_len, eqs_len]; omega
theorem tr_len {l ch : List Int} (h : ∀ n ∈ l, 0 ≤ n) : ∀ k, k ≤ l.length → ((tr l ch k).length : Int) = tot (l.take k)
  | 0, _ => by simp [tr, tot]
  | k + 1, hk => by
    have h1 : l.getD k 0 = l[k] := by simp [List.getD, show k < l.length from hk]
    have h2 := h _ (List.getElem_mem (show k < l.length from hk))
    have h3 := tr_len (ch := ch) h k (by omega)
    rw [List.take_succ_eq_append_getElem (show k < l.length from hk), tot_snoc, tr, List.length_append, blk_len, h1, wd]
    omega

theorem cell_below' {w W : World} {a : Addr} {v : Value} (h : w.cell? a = some v) (hb : Below w.heap.size w W) : W.cell? a = some v := cell_below h hb
theorem row_app {W1 : World} {base : Nat} {v' : Value} {xs : List Bool} {b : Bool} (h : W1.ownsRow base 4 1 v' (xs.length + 1) (bools xs ++ [.bool b])) : W1.ownsRow base 4 1 v' (xs ++ [b]).length (bools (xs ++ [b])) := by
  simpa [bools] using h

set_option maxHeartbeats 4000000 in
set_option maxRecDepth 100000 in
theorem truths_calls {w : World} {base g : Nat} {l : List Int} (h : AT w base g l) (A : Option Addr) (c : Nat) (ch : List Int) (hr : Kd.C (Kd.int .i64) w A ch.length ch) (hc : ch.length ≤ c) (hl : l.length ≤ 4096) (hn : ∀ n ∈ l, 0 ≤ n ∧ n ≤ 16777216) (ht : tot l ≤ 16777216) :
    Calls Try.prog 25 #[.pointer (some ⟨g, 0, none⟩), .slice A ch.length c] w fun e w' => ∃ v, e = .returned v ∧ w'.ownsRow w.heap.size 4 1 v (outL l ch).length (bools (outL l ch)) ∧ Below w.heap.size w w' := by
  obtain ⟨i0, hi, hz0, hz1, hz2⟩ := info_parts info4
  have hAT := h
  obtain ⟨bv, sv, h1, h2, h3, h4⟩ := h
  obtain ⟨pb, qb, rfl⟩ := Hlp.own_slice h3
  obtain ⟨ps, qs, rfl⟩ := Hlp.own_slice h4
  have hc1 := cell_far h1 1 _ rfl
  by_cases hlen : ch.length = l.length
  · have hlI : ((ch.length : Int) != (l.length : Int)) = false := by simp [hlen]
    rw [hlen] at hr hc ⊢
    go_enter Try.func25, Try.ntmps25
    go_wp2
    go_loopw [5, 21] (fun v i wr => ∃ k : Nat, k ≤ l.length ∧ i = .int .i64 k ∧ (∀ p, p < k → okc l ch p) ∧ wr.ownsRow w.heap.size 4 1 v (tr l ch k).length (bools (tr l ch k)) ∧ Below w.heap.size w wr)
      (fun _ i _ => l.length - (intOf i).toNat)
    case atStart => exact ⟨0, Nat.zero_le _, rfl, fun p hp => absurd hp (Nat.not_lt_zero p), World.ownsRow_nil w w.heap.size 4 1, Below.refl _ _⟩
    case round =>
      obtain ⟨k, hk, rfl, hok, hv, hB⟩ := hrel
      by_cases hk1 : k < l.length
      · have hkI : (k : Int) < (l.length : Int) := by omega
        obtain ⟨ad, rfl, hcell0⟩ := Kd.at_int (Kd.C_below hr hB) (k : Int) (by omega) hkI
        rw [Int.toNat_natCast, show rd ch (k : Int) = ch.getD k 0 from by simp [rd]] at hcell0
        obtain ⟨rs, rfl⟩ := addr_of h4 (by omega)
        have hs := cell_below (row_cell h4 k (.int .i64 (l.getD k 0)) (by simp [ints, hk1])) hB
        have hg1 := cell_below hc1 hB
        have hzb := hn (l.getD k 0) (by simp [List.getD, hk1])
        have hokk : okc l ch k ↔ (-1 ≤ ch.getD k 0 ∧ ch.getD k 0 < l.getD k 0) := Iff.rfl
        have htr : tr l ch (k + 1) = tr l ch k ++ blk (l.getD k 0) (ch.getD k 0) := rfl
        have htl := tr_len (ch := ch) (fun n h => (hn n h).1) k hk
        have htt := tot_le (fun n h => (hn n h).1) k
        generalize l.getD k 0 = n at *
        generalize ch.getD k 0 = r at *
        obtain ⟨pv, qv, rfl⟩ := Hlp.own_slice hv
        by_cases hrk : -1 ≤ r ∧ r < n
        · have hr1 : ¬ r < -1 := by omega
          have hr2 : ¬ n ≤ r := by omega
          go_wp2_with (first
            | (go_at_call 57; refine (says0 r wr).mono ?_; rintro e w2 ⟨rfl, hB2⟩; have hv2 := Hlp.own_below hv hB2; have hB2' := hB.trans (hB2.mono hB.size))
            | (at_builtin; refine wpList_append_own_at _ rfl _ _ 38 rfl w.heap.size 4 i0 (.bool false) 1 1 Try.underlying38 hi hz0 hz1 hz2 rfl (by decide) _ _ _ rfl (hv2.alloc _) ⟨w2.heap.size, 0, none⟩ 1 1 [.bool (decide (0 ≤ r))] rfl rfl (cell_one_new _ _ _) (by simp [Value.oneCell']) (by unfold maxLen; omega) (by omega) (by have := hB2'.size; simp; omega) ?_; intro v3 w3 hown3 hgrow3 hnil3 hblk3))
          all_goals
            have hv3 := row_app hown3
            have hB3 : Below w.heap.size w w3 := (hB2'.alloc hB2'.size _).grown hgrow3 (by have := hB2'.size; simp; omega) (fun q hq => (hv2.lt q hq).1)
            have g3 := cell_below' hc1 hB3
            go_loopw [5, 49] (fun v i wr => ∃ j : Nat, j ≤ (n - 1).toNat ∧ i = .int .i64 j ∧ wr.ownsRow w.heap.size 4 1 v (tr l ch k ++ [decide (0 ≤ r)] ++ lows n r j).length (bools (tr l ch k ++ [decide (0 ≤ r)] ++ lows n r j)) ∧ Below w.heap.size w wr)
              (fun _ i _ => (n - 1).toNat - (intOf i).toNat)
            case atStart => exact ⟨0, Nat.zero_le _, rfl, by simpa [lows] using hv3, hB3⟩
            case round =>
              rename_i w4
              obtain ⟨j, hj, rfl, hv4, hB4⟩ := hrel
              have hl4 : (tr l ch k ++ [decide (0 ≤ r)] ++ lows n r j).length ≤ 40000000 := by simp [lows_len]; omega
              generalize hX : tr l ch k ++ [decide (0 ≤ r)] ++ lows n r j = X at hv4 hl4
              obtain ⟨p4, q4, rfl⟩ := Hlp.own_slice hv4
              by_cases hj1 : j < (n - 1).toNat
              · have hjI : (j : Int) < n - 1 := by omega
                first
                | (exfalso; omega)
                | (go_wp2_with (first
                    | (go_at_call 57; refine (says1 (j : Int) r _).mono ?_; rintro e w5 ⟨rfl, hB5⟩; have hv5 := Hlp.own_below hv4 hB5; have hB5' := hB4.trans (hB5.mono hB4.size))
                    | (at_builtin; refine wpList_append_own_at _ rfl _ _ 38 rfl w.heap.size 4 i0 (.bool false) 1 1 Try.underlying38 hi hz0 hz1 hz2 rfl (by decide) _ _ _ rfl (hv5.alloc _) ⟨w5.heap.size, 0, none⟩ 1 1 [.bool (decide (r ≤ (j : Int)))] rfl rfl (cell_one_new _ _ _) (by simp [Value.oneCell']) (by unfold maxLen; omega) (by omega) (by have := hB5'.size; simp; omega) ?_; intro v6 w6 hown6 hgrow6 hnil6 hblk6))
                   have hv6 := row_app hown6
                   exact ⟨⟨j + 1, by omega, rfl, by rw [lows_succ, ← List.append_assoc, hX]; exact hv6, (hB5'.alloc hB5'.size _).grown hgrow6 (by have := hB5'.size; simp; omega) (fun q hq => (hv5.lt q hq).1)⟩, by simp [intOf]; omega⟩)
              · have hjI : ¬ (j : Int) < n - 1 := by omega
                have hj0 : ¬ (j : Int) < 0 := by omega
                obtain rfl : j = (n - 1).toNat := by omega
                go_wp2
                go_loopw [5, 61] (fun v i wr => ∃ q : Nat, q ≤ n.toNat ∧ i = .int .i64 q ∧ wr.ownsRow w.heap.size 4 1 v (X ++ eqs r q).length (bools (X ++ eqs r q)) ∧ Below w.heap.size w wr)
                  (fun _ i _ => n.toNat - (intOf i).toNat)
                case atStart => exact ⟨0, Nat.zero_le _, rfl, by simpa [eqs] using hv4, hB4⟩
                case round =>
                  obtain ⟨q, hq, rfl, hv7, hB7⟩ := hrel
                  have hl7 : (X ++ eqs r q).length ≤ 60000000 := by simp [eqs_len]; omega
                  generalize hY : X ++ eqs r q = Y at hv7 hl7
                  obtain ⟨p7, q7, rfl⟩ := Hlp.own_slice hv7
                  by_cases hq1 : q < n.toNat
                  · have hqI : (q : Int) < n := by omega
                    first
                    | (exfalso; omega)
                    | (go_wp2_with (first
                         | (go_at_call 57; refine (says2 (q : Int) r _).mono ?_; rintro e w8 ⟨rfl, hB8⟩; have hv8 := Hlp.own_below hv7 hB8; have hB8' := hB7.trans (hB8.mono hB7.size))
                         | (at_builtin; refine wpList_append_own_at _ rfl _ _ 38 rfl w.heap.size 4 i0 (.bool false) 1 1 Try.underlying38 hi hz0 hz1 hz2 rfl (by decide) _ _ _ rfl (hv8.alloc _) ⟨w8.heap.size, 0, none⟩ 1 1 [.bool (decide (r = (q : Int)))] rfl rfl (cell_one_new _ _ _) (by simp [Value.oneCell']) (by unfold maxLen; omega) (by omega) (by have := hB8'.size; simp; omega) ?_; intro v9 w9 hown9 hgrow9 hnil9 hblk9))
                       have hv9 := row_app hown9
                       exact ⟨⟨q + 1, by omega, rfl, by rw [eqs_succ, ← List.append_assoc, hY]; exact hv9, (hB8'.alloc hB8'.size _).grown hgrow9 (by have := hB8'.size; simp; omega) (fun q hq => (hv8.lt q hq).1)⟩, by simp [intOf]; omega⟩)
                  · have hqI : ¬ (q : Int) < n := by omega
                    obtain rfl : q = n.toNat := by omega
                    go_wp2
                    refine ⟨⟨k + 1, by omega, rfl, fun p hp => ?_, ?_, hB7⟩, by simp [intOf]; omega⟩
                    · rcases Nat.lt_succ_iff_lt_or_eq.mp hp with h | rfl
                      · exact hok p h
                      · exact hokk.mpr hrk
                    · rw [htr]
                      unfold blk
                      rw [← List.append_assoc, ← List.append_assoc, hX, hY]
                      exact hv7
        · have hno : outL l ch = [] := by
            unfold outL
            exact if_neg fun h => hrk (hokk.mp (h.2 k hk1))
          have hor : (decide (r < -1) || decide (n ≤ r)) = true := by
            simp only [Bool.or_eq_true, decide_eq_true_eq]; omega
          by_cases hr1 : r < -1
          · go_wp2
            go_ret
            try rw [hno]
            exact ⟨_, rfl, World.ownsRow_nil _ w.heap.size 4 1, hB⟩
          · have hr2 : n ≤ r := by omega
            go_wp2
            go_ret
            try rw [hno]
            exact ⟨_, rfl, World.ownsRow_nil _ w.heap.size 4 1, hB⟩
      · have hkI : ¬ (k : Int) < (l.length : Int) := by omega
        obtain rfl : k = l.length := by omega
        go_wp2
        go_ret
        have : outL l ch = tr l ch l.length := by unfold outL; exact if_pos ⟨hlen, hok⟩
        rw [this]
        exact ⟨_, rfl, hv, hB⟩
  · have hlI : ((ch.length : Int) != (l.length : Int)) = true := by simp; omega
    go_enter Try.func25, Try.ntmps25
    go_wp2
    go_ret
    have : outL l ch = [] := by unfold outL; rw [if_neg (by simp [hlen])]
    rw [this]
    exact ⟨_, rfl, World.ownsRow_nil w w.heap.size 4 1, Below.refl _ _⟩
end Go.Proofs.Ytohgjbkiemnfnaa.Ato
