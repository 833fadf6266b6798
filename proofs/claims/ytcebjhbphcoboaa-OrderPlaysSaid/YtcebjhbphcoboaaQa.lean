/- The table of atoms: what it is (a struct of two rows and a number), and how it is made. Walks by hand. -/
import Derived.Test.YtcebjhbphcoboaaHlp
import Derived.Test.YtcebjhbphcoboaaX0
import Derived.Maps.AppendAt
import Derived.WalkKit
import Derived.WalkArith
import Derived.Deep.RegionWith
import Derived.BigRegion
import Derived.Deep.QuietTactic
import Derived.BigQuiet
import Derived.Deep.AppendLies
import Derived.Deep.RegionLaw
namespace Go.Proofs.Ytcebjhbphcoboaa.Ato
open Go Go.RowKit Go.Proofs.Ytcebjhbphcoboaa.X Go.Proofs.Ytcebjhbphcoboaa.Hlp Go.Proofs.YtcebjhbphcoboaaW.PrintWords Go.Proofs.YtcebjhbphcoboaaW.PrintLast Go.Proofs.YtcebjhbphcoboaaW.PrintMore
attribute [local go_sem] max2_int min2_int max_two min_two
set_option linter.unusedVariables false
set_option linter.unusedSimpArgs false
theorem info3' : (Try.prog.info? 3).map (fun i => (i.zero, i.size, i.bytes)) = some (some (.int .i64 0), 1, 8) := by kernel_rfl
/-- How many variables a package of n ranks has; packages; the first of each. -/
def wd (n : Int) : Int := 1 + n + max (n - 1) 0
def tot (l : List Int) : Int := (l.map wd).sum
def begins (l : List Int) : List Int := (List.range l.length).map fun p => tot (l.take p) + 1
def ints (l : List Int) : List Value := l.map (Value.int .i64)
theorem tot_snoc (l : List Int) (n : Int) : tot (l ++ [n]) = tot l + wd n := by simp [tot]
theorem tot_nonneg {l : List Int} (h : ∀ n ∈ l, 0 ≤ n) : 0 ≤ tot l := by
  induction l with
  | nil => simp [tot]
  | cons a r ih =>
    have h1 := h a (by simp)
    have h2 := ih fun n hn => h n (by simp [hn])
    simp only [tot, List.map_cons, List.sum_cons, wd] at *
    omega
theorem tot_le {l : List Int} (h : ∀ n ∈ l, 0 ≤ n) (k : Nat) : tot (l.take k) ≤ tot l := by
  have e : tot l = tot (l.take k) + tot (l.drop k) := by
    unfold tot
    rw [← List.sum_append, ← List.map_append, List.take_append_drop]
  have := tot_nonneg (l := l.drop k) fun n hn => h n (List.mem_of_mem_drop hn)
  omega
def begs (l : List Int) (k : Nat) : List Int := (List.range k).map fun p => tot (l.take p) + 1
theorem begs_succ (l : List Int) (k : Nat) : begs l (k + 1) = begs l k ++ [tot (l.take k) + 1] := by simp [begs, List.range_succ]
/-- A table of atoms at block g. -/
def AT (W : World) (base g : Nat) (l : List Int) : Prop :=
  ∃ bv sv, W.heap[g]? = some (.cells #[bv, sv, .int .i64 (tot l)] 116 (0, 0)) ∧ base ≤ g ∧ W.ownsRow base 3 1 bv l.length (ints (begs l l.length)) ∧ W.ownsRow base 3 1 sv l.length (ints l)

theorem AT.below {w w' : World} {base g : Nat} {l : List Int} (h : AT w base g l) (hb : Below w.heap.size w w') : AT w' base g l := by
  obtain ⟨bv, sv, h1, h2, h3, h4⟩ := h
  exact ⟨bv, sv, blk_below h1 hb, h2, own_below h3 hb, own_below h4 hb⟩

set_option maxRecDepth 100000 in
theorem width_calls (n : Int) (h0 : 0 ≤ n) (h1 : n ≤ 16777216) (w : World) : Calls Try.prog 75 #[.int .i64 n] w fun e w' => e = .returned (.int .i64 (wd n)) ∧ w' = w := by
  go_enter Try.func75, Try.ntmps75
  go_wp2
  all_goals
    go_ret
    exact ⟨by simp [wd]; omega, rfl⟩

set_option maxHeartbeats 1000000 in
set_option maxRecDepth 100000 in
theorem new_calls (A : Option Addr) (c : Nat) (l : List Int) (w : World) (hr : Kd.C (Kd.int .i64) w A l.length l) (hc : l.length ≤ c) (hl : l.length ≤ 4096) (hn : ∀ n ∈ l, 0 ≤ n ∧ n ≤ 16777216) (ht : tot l ≤ 16777216)
    (hclone : Calls Try.prog 74 #[.slice A l.length c] w fun e w' => ∃ v, e = .returned v ∧ w'.ownsRow w.heap.size 3 1 v l.length (ints l) ∧ Below w.heap.size w w') :
    Calls Try.prog 40 #[.slice A l.length c] w fun e w' => ∃ g, e = .returned (.pointer (some ⟨g, 0, none⟩)) ∧ AT w' w.heap.size g l ∧ Below w.heap.size w w' := by
  obtain ⟨i0, hi, hz0, hz1, hz2⟩ := info_parts info3'
  have hlI : ¬ (4096 : Int) < (l.length : Int) := by omega
  go_enter Try.func40, Try.ntmps40
  go_wp2_with (first
    | (go_at_call 74; with_reducible refine hclone.mono ?_; rintro e w1 ⟨sv, rfl, hs1, hB1⟩; obtain ⟨ps, qs, rfl⟩ := Hlp.own_slice hs1))
  have hg0 := blk_new w1 (.cells #[.slice none 0 0, .slice ps l.length qs, .int .i64 0] 116)
  go_loopw [15] (fun i wr => ∃ k : Nat, k ≤ l.length ∧ i = .int .i64 k ∧ ∃ bv, wr.heap[w1.heap.size]? = some (.cells #[bv, .slice ps l.length qs, .int .i64 (tot (l.take k))] 116 (0, 0)) ∧ wr.ownsRow (w1.heap.size + 1) 3 1 bv k (ints (begs l k)) ∧ wr.ownsRow w.heap.size 3 1 (.slice ps l.length qs) l.length (ints l) ∧ Below w.heap.size w wr ∧ Below w1.heap.size w1 wr)
    (fun i _ => l.length - (intOf i).toNat)
  case atStart => exact ⟨0, Nat.zero_le _, rfl, _, by simpa [tot] using hg0, World.ownsRow_nil (w1.alloc (.cells #[.slice none 0 0, .slice ps l.length qs, .int .i64 0] 116)) (w1.heap.size + 1) 3 1, hs1.alloc _, hB1.alloc hB1.size _, (Below.refl _ _).alloc (Nat.le_refl _) _⟩
  case round =>
    obtain ⟨k, hk, rfl, bv, hg, hbv, hsv, hB, hBw⟩ := hrel
    obtain ⟨pb, qb, rfl⟩ := Hlp.own_slice hbv
    by_cases hk1 : k < l.length
    · have hkI : (k : Int) < (l.length : Int) := by omega
      obtain ⟨ad, rfl, hcell0⟩ := Kd.at_int (Kd.C_below hr hB) (k : Int) (by omega) hkI
      rw [Int.toNat_natCast, show rd l (k : Int) = l[k] from by simp [rd, hk1]] at hcell0
      have hzb := hn _ (List.getElem_mem hk1)
      have htk : l.take (k + 1) = l.take k ++ [l[k]] := List.take_succ_eq_append_getElem hk1
      have ht1 : tot (l.take (k + 1)) = tot (l.take k) + wd l[k] := by rw [htk, tot_snoc]
      have ht2 := tot_le (fun n h => (hn n h).1) (k + 1)
      have ht3 := tot_nonneg (l := l.take k) fun n h => (hn n (List.mem_of_mem_take h)).1
      have hb2 := begs_succ l k
      have hw0 : 0 < wd l[k] := by unfold wd; omega
      generalize l[k] = z at hcell0 hzb htk ht1 hw0
      have hwc := fun n => width_calls z hzb.1 hzb.2 (wr.drewN n)
      have hwd := fun W => width_calls z hzb.1 hzb.2 W
      generalize hwz : wd z = y at hwc hwd ht1 hw0
      generalize ht : tot (l.take k) = tk at hg ht1 ht3 hb2
      have hzn : ¬ z < 0 := by omega
      have hzm : ¬ (16777216 : Int) < z := by omega
      have hzt : ¬ (16777216 - tk < y) := by omega
      have hwr : IntKind.i64.wrap (16777216 - tk) = 16777216 - tk := by rw [IntKind.wrap_i64]; omega
      have hwr1 : IntKind.i64.wrap (tk + 1) = tk + 1 := by rw [IntKind.wrap_i64]; omega
      have hwr2 : IntKind.i64.wrap (tk + y) = tk + y := by rw [IntKind.wrap_i64]; omega
      have hc2 := cell_far hg 2 _ rfl
      have hc0 := cell_far hg 0 _ rfl
      go_wp2_with fail
      go_quiet (first | (go_at_call 75; exact Calls.quiet_of_same (hwc _)))
      go_wp2_with fail
      generalize hwq : wr.drewN nq = wq
      have hgq : wq.heap[w1.heap.size]? = some (.cells #[.slice pb k qb, .slice ps l.length qs, .int .i64 tk] 116 (0, 0)) := by subst hwq; exact hg
      have hbq : wq.ownsRow (w1.heap.size + 1) 3 1 (.slice pb k qb) k (ints (begs l k)) := by subst hwq; exact hbv
      have hsq : wq.ownsRow w.heap.size 3 1 (.slice ps l.length qs) l.length (ints l) := by subst hwq; exact hsv
      have hBq : Below w.heap.size w wq := by subst hwq; exact pw_below_drewN hB _
      have hBwq : Below w1.heap.size w1 wq := by subst hwq; exact pw_below_drewN hBw _
      have hq0 := cell_far hgq 0 _ rfl
      have hq2 := cell_far hgq 2 _ rfl
      clear hc2 hc0 hg hbv hsv hB hBw hwc
      have hrowd : ((wq.alloc (.cells #[.int .i64 (tk + 1)] 3)).drew).ownsRow (w1.heap.size + 1) 3 1 (.slice pb k qb) k (ints (begs l k)) := (hbq.alloc _).kept (grown_drew _) (by cases (Value.slice pb k qb).ownBlock <;> simp)
      have hgd : ((wq.alloc (.cells #[.int .i64 (tk + 1)] 3)).drew).heap[w1.heap.size]? = some (.cells #[.slice pb k qb, .slice ps l.length qs, .int .i64 tk] 116 (0, 0)) := blk_drew (blk_alloc hgq _)
      have hgd0 := cell_far hgd 0 _ rfl
      go_region_law (refine step_append_lies _ rfl (.tmp 39) (.tmp 45) 46 rfl (w1.heap.size + 1) 3 i0 (.int .i64 0) 1 8 Try.underlying46 hi hz0 hz1 hz2 rfl (by decide) _ k _ rfl hrowd ⟨wq.heap.size, 0, none⟩ 1 1 [.int .i64 (tk + 1)] rfl rfl (cell_one_new wq _ _) (by simp [Value.oneCell']) (by decide) (by unfold maxLen; omega) (by omega) (by have := hBwq.size; simp; omega) _ rfl ?_; intro g5 c5 w5 hown5 hgrow5 hat5 hlt5; have hD := blk_grown hgd hgrow5 (Hlp.own_ne hrowd hgd (by simp)); have hD0 := cell_far hD 0 _ rfl; have hDf := blk_frozen hD 0)
      all_goals
        have hE := blk_set hD 0 (.slice (some ⟨g5, 0, none⟩) (k + 1) c5)
        have hE2 := cell_far hE 2 _ rfl
        have hEf := blk_frozen hE 2
        go_wp2_with fail
        go_region_with (go_at_call 75; with_reducible refine (hwd _).mono ?_; rintro e w' ⟨rfl, hw⟩; obtain rfl := hw.symm)
        all_goals go_wp2_with fail
      all_goals
        have hbl : ∀ q, (Value.slice pb k qb).ownBlock = some q → w1.heap.size + 1 ≤ q := fun q hq => (hbq.lt q hq).1
        have hsl : ∀ q, (Value.slice ps l.length qs).ownBlock = some q → q < w1.heap.size := fun q hq => (hs1.lt q hq).2
        have hsz5 := hgrow5.size
        have hszq := hBwq.size
        simp at hsz5
        have ch : ∀ (B : Nat) (w0 : World), B ≤ w1.heap.size → Below B w0 wq → Below B w0 (((w5.setCell ⟨w1.heap.size, 0, none⟩ (.slice (some ⟨g5, 0, none⟩) (k + 1) c5)).setCell ⟨w1.heap.size, 2, none⟩ (.int .i64 (tk + y))).drew) := by
          intro B w0 hBle hb
          refine ((((hb.alloc (by omega) (.cells #[.int .i64 (tk + 1)] 3)).grown (grown_drew _) (by simp; omega) (by simp)).grown hgrow5 (by simp; omega) (fun q hq => by have := hbl q hq; omega)).grown (grown_set w5 w1.heap.size 0 _) (by omega) (by rintro q ⟨⟩; exact hBle)).grown (grown_set _ w1.heap.size 2 _) (by simp; omega) (by rintro q ⟨⟩; exact hBle) |>.grown (grown_drew _) (by simp; omega) (by simp)
        refine ⟨⟨k + 1, by omega, rfl, .slice (some ⟨g5, 0, none⟩) (k + 1) c5, ?_, ?_, ?_, ch _ _ hB1.size hBq, ch _ _ (Nat.le_refl _) hBwq⟩, by simp [intOf]; omega⟩
        · rw [ht1]; simpa using blk_drew (blk_set hE 2 (.int .i64 (tk + y)))
        · rw [hb2]
          have hne : (Value.slice (some ⟨g5, 0, none⟩) (k + 1) c5).ownBlock ≠ some w1.heap.size := (Hlp.own_ne hown5 hD (by simp)).symm
          have := ((hown5.kept (grown_set w5 w1.heap.size 0 (.slice (some ⟨g5, 0, none⟩) (k + 1) c5)) (.inr hne)).kept (grown_set _ w1.heap.size 2 (.int .i64 (tk + y))) (.inr hne)).kept (grown_drew _) (.inr (by simp [Value.ownBlock]))
          simpa [ints] using this
        · have hne : (Value.slice ps l.length qs).ownBlock ≠ some w1.heap.size := fun e => by have := hsl _ e; omega
          have hne2 : (Value.slice ps l.length qs).ownBlock = none ∨ (Value.slice ps l.length qs).ownBlock ≠ (Value.slice pb k qb).ownBlock := by
            cases hq : (Value.slice ps l.length qs).ownBlock with
            | none => exact .inl rfl
            | some q =>
              refine .inr fun e => ?_
              have h1 := hsl q hq
              have h2 := hbl q e.symm
              omega
          exact ((((((hsq.alloc _).kept (grown_drew _) (by cases (Value.slice ps l.length qs).ownBlock <;> simp)).kept hgrow5 hne2).kept (grown_set _ w1.heap.size 0 _) (.inr hne)).kept (grown_set _ w1.heap.size 2 _) (.inr hne)).kept (grown_drew _) (by cases (Value.slice ps l.length qs).ownBlock <;> simp))
    · have hkI : ¬ (k : Int) < (l.length : Int) := by omega
      obtain rfl : k = l.length := by omega
      go_wp2
      go_ret
      exact ⟨_, rfl, ⟨_, _, by rw [List.take_length] at hg; exact hg, hB1.size, own_base hbv (Nat.le_trans hB1.size (Nat.le_succ _)), hsv⟩, hB⟩
end Go.Proofs.Ytcebjhbphcoboaa.Ato
