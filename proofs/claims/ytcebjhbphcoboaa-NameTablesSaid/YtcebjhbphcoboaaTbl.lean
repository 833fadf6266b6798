/- The table of names: what a table is (a struct of a map and a row of names), and what its methods hand back: Find, Len, Add. Walks by hand. -/
import Derived.Test.YtcebjhbphcoboaaXn15
import Derived.Maps.AppendAt
import Derived.Maps.OwnSet
import Derived.StringKeys
import Derived.WalkKit
import Derived.WalkSpells
import Derived.WalkArith
import Derived.Deep.RegionWith
import Derived.BigRegion
namespace Go.Proofs.Ytcebjhbphcoboaa.Tbl
open Go Go.RowKit Go.Maps Go.Proofs.Ytcebjhbphcoboaa.X Go.Proofs.YtcebjhbphcoboaaW.PrintWords Go.Proofs.YtcebjhbphcoboaaW.PrintLast Go.Proofs.YtcebjhbphcoboaaW.PrintMore
set_option linter.unusedVariables false
set_option linter.unusedSimpArgs false

instance decBA : DecidableEq ByteArray := fun a b => decidable_of_iff (a.data = b.data) ⟨fun h => by cases a; cases b; simp at h; rw [h], fun h => by rw [h]⟩
/-- A name's number; none: 0. -/
def mem (l : List ByteArray) (s : ByteArray) : Bool := l.any fun x => decide (x = s)
def num (l : List ByteArray) (s : ByteArray) : Int := if mem l s then (l.findIdx (fun x => decide (x = s)) : Int) else 0
def key (s : ByteArray) : Lit := .string s.data.toList
noncomputable abbrev El := plainElem (H := Unit) Try.prog 3
/-- A map that holds the numbers. -/
def Holds (D : DataW Unit) (l : List ByteArray) : Prop := ∀ s : ByteArray, s.size ≤ maxLen → D.atKey (key s) (.lit (.int .i64 0)) = .lit (.int .i64 (num l s)) ∧ has D (key s) = mem l s
def NumOk (w : World) (base : Nat) (S : Nat → Prop) (mv : Value) (l : List ByteArray) : Prop :=
  (mv = .map none ∧ l = []) ∨ ∃ b D, mv = .map (some b) ∧ base ≤ b ∧ S b ∧ w.ownsMap Try.prog 9 El b l.length D ∧ Holds D l
/-- What the table's blocks hold. -/
def TabAt (w : World) (base g : Nat) (S : Nat → Prop) (mv sv : Value) (l : List ByteArray) : Prop :=
  w.heap[g]? = some (.cells #[mv, sv] 36 (0, 0)) ∧ base ≤ g ∧ S g ∧ NumOk w base S mv l ∧ w.ownsRow base 9 1 sv l.length (l.map Value.string) ∧ (∀ k, sv.ownBlock = some k → S k) ∧ l.length ≤ 4096 ∧ l.Nodup
def Tab (w : World) (base g : Nat) (S : Nat → Prop) (l : List ByteArray) : Prop := ∃ mv sv, TabAt w base g S mv sv l

theorem keyed : Keyed Try.prog 9 := string_keyed Try.underlying9
theorem zero3 (w : World) : (zeroValue 3).run Try.prog w = .ok (.int .i64 0) w := by kernel_rfl
theorem info9 : (Try.prog.info? 9).map (fun i => (i.zero, i.size, i.bytes)) = some (some (.string ⟨#[]⟩), 1, 16) := by kernel_rfl

theorem Tab.later {w w' : World} {base g : Nat} {S : Nat → Prop} {l : List ByteArray} (h : Tab w base g S l) (hk : ∀ i, i < w.heap.size → S i → w'.heap[i]? = w.heap[i]?) : Tab w' base g S l := by
  obtain ⟨mv, sv, hb, hg, hS, hn, hr, hs, hl, hd⟩ := h
  refine ⟨mv, sv, (hk g (blk_lt hb) hS).trans hb, hg, hS, ?_, ?_, hs, hl, hd⟩
  · rcases hn with h | ⟨b, D, h1, h2, h3, h4, h5⟩
    · exact .inl h
    · obtain ⟨es, clock, e1, e2⟩ := h4
      exact .inr ⟨b, D, h1, h2, h3, ⟨es, clock, (hk b (blk_lt e1) h3).trans e1, e2⟩, h5⟩
  · refine ⟨hr.1, ?_⟩
    rcases hr.2 with h | ⟨k, cap, cur, rfl, h2, h3, h4⟩
    · exact .inl h
    · exact .inr ⟨k, cap, cur, rfl, h2, (hk k (blk_lt h3) (hs k rfl)).trans h3, h4⟩
theorem Tab.below {w w' : World} {base g : Nat} {S : Nat → Prop} {l : List ByteArray} (h : Tab w base g S l) (hb : Below w.heap.size w w') : Tab w' base g S l :=
  h.later fun i hi _ => hb.block i hi
theorem Tab.kept {w w' : World} {base g : Nat} {S S' : Nat → Prop} {l : List ByteArray} (h : Tab w base g S l) (hb : Kept w w' S') (hS : ∀ k, S k → ¬ S' k) : Tab w' base g S l :=
  h.later fun i hi hs => hb.2 i hi (hS i hs)
theorem Tab.mono {w : World} {base g : Nat} {S S' : Nat → Prop} {l : List ByteArray} (h : Tab w base g S l) (hS : ∀ k, S k → S' k) : Tab w base g S' l := by
  obtain ⟨mv, sv, hb, hg, hs0, hn, hr, hs, hl, hd⟩ := h
  refine ⟨mv, sv, hb, hg, hS _ hs0, ?_, hr, fun k hk => hS k (hs k hk), hl, hd⟩
  rcases hn with h | ⟨b, D, h1, h2, h3, h4, h5⟩
  · exact .inl h
  · exact .inr ⟨b, D, h1, h2, hS _ h3, h4, h5⟩
theorem Tab.lt {w : World} {base g : Nat} {S : Nat → Prop} {l : List ByteArray} (h : Tab w base g S l) : base ≤ g ∧ g < w.heap.size := by
  obtain ⟨mv, sv, hb, hg, _⟩ := h
  exact ⟨hg, blk_lt hb⟩

set_option maxRecDepth 100000 in
theorem find_calls {w : World} {base g : Nat} {S : Nat → Prop} {l : List ByteArray} (h : Tab w base g S l) (s : ByteArray) (hs : s.size ≤ maxLen) :
    Calls Try.prog 22 #[.pointer (some ⟨g, 0, none⟩), .string s] w fun e w' => e = .returned (.tuple #[.int .i64 (num l s), .bool (mem l s)]) ∧ w' = w := by
  obtain ⟨mv, sv, hb, hg, hS, hn, hr, hs, hl, hd⟩ := h
  have hc : w.cell? ⟨g, 0, none⟩ = some mv := blk_cell hb 0
  have hkey : keyOf Try.prog 9 (.string s) = some (key s) := Go.WideMaps.keyOf_string_mk Try.underlying9 (by assumption)
  obtain ⟨y, hy⟩ : ∃ y, y = Value.tuple #[.int .i64 (num l s), .bool (mem l s)] := ⟨_, rfl⟩
  have hlook : (Instr.lookup 33 mv (.string s) true).run Try.prog w = .ok (.tuple #[.int .i64 (num l s), .bool (mem l s)]) w := by
    rcases hn with ⟨rfl, rfl⟩ | ⟨b, D, rfl, h2, h3, h4, h5⟩
    · have := Maps.look_nil true keyed Try.underlying33 (zero3 w) hkey
      simpa [num, mem] using this
    · obtain ⟨v, ps, hrun, hv⟩ := h4.look_ok keyed Try.underlying33 (zero3 w) (plainElem_int Try.underlying3 (by decide)) hkey
      obtain ⟨c, rfl, hc, hwc⟩ := plainElem_int_inv Try.underlying3 hv
      obtain ⟨h6, h7⟩ := h5 s (by assumption)
      rw [h7] at hrun
      have h8 := congrArg Prod.fst hc
      rw [h6] at h8
      simp at h8
      rw [h8]
      exact hrun
  generalize num l s = n at *
  generalize mem l s = d at *
  clear hn hr hs hy
  go_enter Try.func22, Try.ntmps22
  go_wp2
  go_ret2
  exact ⟨rfl, rfl⟩

set_option maxRecDepth 100000 in
theorem len_calls {w : World} {g : Nat} {p : Option Addr} {n c : Nat} (hc : w.cell? ⟨g, 1, none⟩ = some (.slice p n c)) :
    Calls Try.prog 18 #[.pointer (some ⟨g, 0, none⟩)] w fun e w' => e = .returned (.int .i64 n) ∧ w' = w := by
  go_enter Try.func18, Try.ntmps18
  go_wp2
  go_ret
  exact ⟨rfl, rfl⟩

theorem mem_iff {l : List ByteArray} {s : ByteArray} : mem l s = true ↔ s ∈ l := by
  simp only [mem, List.any_eq_true, decide_eq_true_iff]
  exact ⟨fun ⟨x, h, e⟩ => e ▸ h, fun h => ⟨s, h, rfl⟩⟩

/-- What adding a name makes of the names. -/
def addL (l : List ByteArray) (s : ByteArray) (gd : Bool) : List ByteArray := if mem l s then l else if !gd then l else if l.length = 4096 then l else l ++ [s]
def addN (l : List ByteArray) (s : ByteArray) (gd : Bool) : Int := if mem l s then num l s else if !gd then 0 else if l.length = 4096 then 0 else l.length
def addE (l : List ByteArray) (s : ByteArray) (gd : Bool) : Int := if mem l s then 0 else if !gd then 12 else if l.length = 4096 then 9 else 0

theorem add_calls_known {w : World} {base g : Nat} {S : Nat → Prop} {l : List ByteArray} (h : Tab w base g S l) (s : ByteArray) (hs : s.size ≤ maxLen) (hm : mem l s = true) :
    Calls Try.prog 17 #[.pointer (some ⟨g, 0, none⟩), .string s] w fun e w' => e = .returned (.tuple #[.int .i64 (num l s), .int .i64 0]) ∧ w' = w := by
  have hf := find_calls h s hs
  rw [hm] at hf
  generalize num l s = n at *
  go_enter Try.func17, Try.ntmps17
  go_wp2_with (go_at_call 22; with_reducible refine hf.mono ?_; rintro e w1 ⟨rfl, rfl⟩)
  go_ret2
  exact ⟨rfl, rfl⟩

theorem add_calls_bad {w : World} {base g : Nat} {S : Nat → Prop} {l : List ByteArray} (h : Tab w base g S l) (s : ByteArray) (hs : s.size ≤ maxLen) (hm : mem l s = false)
    (k : Nat) (hg : name_Good.f k s = some false) :
    Calls Try.prog 17 #[.pointer (some ⟨g, 0, none⟩), .string s] w fun e w' => e = .returned (.tuple #[.int .i64 0, .int .i64 12]) ∧ Below w.heap.size w w' := by
  have hf := find_calls h s hs
  rw [hm] at hf
  have hG := name_Good.calls k s false w hg
  generalize num l s = n at *
  go_enter Try.func17, Try.ntmps17
  go_wp2_with (first
    | (go_at_call 22; with_reducible refine hf.mono ?_; rintro e w1 ⟨rfl, rfl⟩)
    | (go_at_call 15; with_reducible refine hG.mono ?_; rintro e w1 ⟨rfl, hb⟩))
  go_ret2
  exact ⟨rfl, hb⟩

theorem add_calls_full {w : World} {base g : Nat} {S : Nat → Prop} {l : List ByteArray} (h : Tab w base g S l) (s : ByteArray) (hs : s.size ≤ maxLen) (hm : mem l s = false)
    (k : Nat) (hg : name_Good.f k s = some true) (hl : l.length = 4096) :
    Calls Try.prog 17 #[.pointer (some ⟨g, 0, none⟩), .string s] w fun e w' => e = .returned (.tuple #[.int .i64 0, .int .i64 9]) ∧ Below w.heap.size w w' := by
  have hf := find_calls h s hs
  rw [hm] at hf
  have hG := name_Good.calls k s true w hg
  have hlen : ∀ w1, Below w.heap.size w w1 → Calls Try.prog 18 #[.pointer (some ⟨g, 0, none⟩)] w1 fun e w' => e = .returned (.int .i64 4096) ∧ w' = w1 := by
    intro w1 hb
    obtain ⟨mv, sv, h1, h2, h3, h4, h5, h6⟩ := h
    have hc : w1.cell? ⟨g, 1, none⟩ = some sv := blk_cell (blk_below h1 hb) 1
    rcases h5.2 with ⟨rfl, h0⟩ | ⟨b, cap, cur, rfl, _⟩
    · omega
    · have := len_calls hc
      rw [hl] at this
      exact this
  generalize num l s = n at *
  go_enter Try.func17, Try.ntmps17
  go_wp2_with (first
    | (go_at_call 22; with_reducible refine hf.mono ?_; rintro e w1 ⟨rfl, rfl⟩)
    | (go_at_call 15; with_reducible refine hG.mono ?_; rintro e w1 ⟨rfl, hb⟩)
    | (go_at_call 18; with_reducible refine (hlen _ hb).mono ?_; rintro e w2 ⟨rfl, rfl⟩))
  go_ret2
  exact ⟨rfl, hb⟩


theorem key_inj {q s : ByteArray} (h : key q = key s) : q = s := by
  simp only [key, Lit.string.injEq] at h
  cases q; cases s
  simp only at h
  rw [Array.toList_inj.mp h]
theorem num_new {l : List ByteArray} {s : ByteArray} (hm : mem l s = false) : num (l ++ [s]) s = l.length := by
  have h : ∀ x ∈ l, decide (x = s) = false := by simpa [mem] using hm
  have h2 : l.findIdx (fun x => decide (x = s)) = l.length := List.findIdx_eq_length.mpr h
  rw [num, if_pos (by simp [mem]), List.findIdx_append, if_neg (by omega)]
  simp
theorem num_old {l : List ByteArray} {q s : ByteArray} (hqs : q ≠ s) : num (l ++ [s]) q = num l q := by
  have hm2 : mem (l ++ [s]) q = mem l q := by simp [mem, Ne.symm hqs]
  unfold num
  rw [hm2]
  split
  case isTrue h =>
    have : l.findIdx (fun x => decide (x = q)) < l.length := List.findIdx_lt_length.mpr (by simpa [mem] using h)
    rw [List.findIdx_append, if_pos this]
  case isFalse => rfl
theorem keyed_put {D : DataW Unit} {l : List ByteArray} {s : ByteArray} (hs : s.size ≤ maxLen) (hD : IsMap D) (h : Holds D l) (hm : mem l s = false) : Holds (D.put (key s) (.lit (.int .i64 l.length))) (l ++ [s]) := by
  intro q hq
  have hk : WideAt.IsKeyLit (key s) := trivial
  by_cases hqs : q = s
  · subst hqs
    refine ⟨?_, ?_⟩
    · rw [atKey_put_same hD hk, num_new hm]
    · rw [has_put_same hD hk]
      simp [mem]
  · have hne : key q ≠ key s := fun e => hqs (key_inj e)
    rw [atKey_put_other hne, has_put_other hne, (h q hq).1, (h q hq).2]
    have hm2 : mem (l ++ [s]) q = mem l q := by simp [mem, Ne.symm hqs]
    rw [hm2, num_old hqs]
    exact ⟨rfl, rfl⟩
theorem own_slice {w : World} {base e n : Nat} {v : Value} {xs : List Value} (h : w.ownsRow base e 1 v n xs) : ∃ p c, v = .slice p n c := by
  rcases h.2 with ⟨rfl, rfl⟩ | ⟨b, cap, cur, rfl, _⟩
  · exact ⟨_, _, rfl⟩
  · exact ⟨_, _, rfl⟩
theorem own_type {w : World} {base e n : Nat} {v : Value} {xs : List Value} (h : w.ownsRow base e 1 v n xs) {k : Nat} (hk : v.ownBlock = some k) : ∃ cur, w.heap[k]? = some (.cells cur e (0, 0)) := by
  rcases h.2 with ⟨rfl, rfl⟩ | ⟨b, cap, cur, rfl, _, hb, _⟩
  · cases hk
  · obtain rfl : b = k := by simpa [Value.ownBlock] using hk
    exact ⟨_, hb⟩
theorem own_ne {w : World} {base e n : Nat} {v : Value} {xs : List Value} (h : w.ownsRow base e 1 v n xs) {g : Nat} {o : Obj} (hg : w.heap[g]? = some o) (ho : ∀ cs, o ≠ .cells cs e (0, 0)) : some g ≠ v.ownBlock := by
  intro hk
  obtain ⟨cur, hc⟩ := own_type h hk.symm
  rw [hg] at hc
  exact ho _ (Option.some.inj hc)
theorem cell_far {w : World} {g : Nat} {t : TypeId} {cs : Array Value} (h : w.heap[g]? = some (.cells cs t (0, 0))) (i : Nat) (v : Value) (hv : cs[i]? = some v) : w.cell? ⟨g, i, none⟩ = some v := (blk_cell h i).trans hv
theorem grown_set (w : World) (b i : Nat) (v : Value) : w.grownBy (w.setCell ⟨b, i, none⟩ v) (some b) :=
  ⟨rfl, rfl, rfl, by simp, fun k _ hk => Below.heap_setCell _ _ _ _ (by simpa using hk)⟩

/-- What has turned since: nothing below 'base', of the old blocks none but those of S. -/
def Ch (base : Nat) (S : Nat → Prop) (w w' : World) : Prop := Below base w w' ∧ Kept w w' S
theorem Ch.refl {base : Nat} {S : Nat → Prop} (w : World) : Ch base S w w := ⟨Below.refl _ _, Nat.le_refl _, fun _ _ _ => rfl⟩
theorem Ch.step {base : Nat} {S : Nat → Prop} {w w1 w2 : World} {row : Option Nat} (h : Ch base S w w1) (hw : base ≤ w.heap.size) (hg : w1.grownBy w2 row) (hr : ∀ k, row = some k → base ≤ k ∧ (S k ∨ w.heap.size ≤ k)) : Ch base S w w2 := by
  obtain ⟨hb, hk⟩ := h
  have hs : w.heap.size ≤ w1.heap.size := hk.1
  refine ⟨⟨hg.os.trans hb.os, hg.tape.trans hb.tape, hg.output.trans hb.output, Nat.le_trans hb.size hg.size, fun i hi => ?_⟩, Nat.le_trans hk.1 hg.size, fun i hi hn => ?_⟩
  · refine (hg.block i (by omega) (fun e => ?_)).trans (hb.block i hi)
    have := (hr i e.symm).1; omega
  · refine (hg.block i (by omega) (fun e => ?_)).trans (hk.2 i hi hn)
    rcases (hr i e.symm).2 with h | h
    · exact hn h
    · omega
theorem grown_drew (w : World) : w.grownBy w.drew none := ⟨rfl, rfl, rfl, Nat.le_refl _, fun _ _ _ => rfl⟩

theorem tab_put {w : World} {base g b : Nat} {S : Nat → Prop} {l : List ByteArray} {s : ByteArray} {D : DataW Unit} {v0 v' : Value}
    (hb : w.heap[g]? = some (.cells #[.map (some b), v0] 36 (0, 0))) (hg : base ≤ g) (hS : S g) (hbb : base ≤ b) (hSb : S b) (hM : w.ownsMap Try.prog 9 El b (l.length + 1) D) (hH : Holds D (l ++ [s]))
    (hr : w.ownsRow base 9 1 v' (l.length + 1) ((l ++ [s]).map Value.string)) (hs : ∀ k, v'.ownBlock = some k → S k) (hl : l.length < 4096) (hd : l.Nodup) (hm : mem l s = false) :
    Tab (w.setCell ⟨g, 1, none⟩ v') base g S (l ++ [s]) := by
  have hne : b ≠ g := by
    obtain ⟨es, ck, h1, _⟩ := hM
    rintro rfl
    rw [hb] at h1; cases h1
  have hlen : (l ++ [s]).length = l.length + 1 := by simp
  refine ⟨_, v', (by simpa using blk_set hb 1 v'), hg, hS, .inr ⟨b, D, rfl, hbb, hSb, ?_, hH⟩, ?_, hs, by omega, ?_⟩
  · rw [hlen]; exact hM.setCell hne _
  · rw [hlen]; exact hr.kept (grown_set w g 1 v') (.inr (own_ne hr hb (by simp)).symm)
  · rw [List.nodup_append]
    refine ⟨hd, by simp, fun a ha b hb => ?_⟩
    rintro rfl
    simp at hb; subst hb
    rw [mem_iff.mpr ha] at hm; cases hm

/-- Ahead of the map's store: what is held. -/
structure Mid (base : Nat) (S : Nat → Prop) (w W : World) (g b : Nat) (n : Nat) (D : DataW Unit) (v : Value) (l : List ByteArray) : Prop where
  ch : Ch base S w W
  blk : W.heap[g]? = some (.cells #[.map (some b), v] 36 (0, 0))
  map : W.ownsMap Try.prog 9 El b n D
  row : W.ownsRow base 9 1 v l.length (l.map Value.string)
  ge : base ≤ b
  new : S b ∨ w.heap.size ≤ b

theorem Mid.put {base : Nat} {S : Nat → Prop} {w W : World} {g b : Nat} {D : DataW Unit} {v : Value} {l : List ByteArray} (h : Mid base S w W g b l.length D v l) (hw : base ≤ w.heap.size) (hl : l.length < 4096) (s : ByteArray) (hs : s.size ≤ maxLen) :
    ∃ w3, (Instr.mapUpdate 33 (.map (some b)) (.string s) (.int .i64 l.length)).run Try.prog W.drew = .ok () w3 ∧ Mid base S w w3 g b (l.length + 1) (D.put (key s) (.lit (.int .i64 l.length))) v l := by
  have hkey : keyOf Try.prog 9 (.string s) = some (key s) := Go.WideMaps.keyOf_string_mk Try.underlying9 hs
  have hwf : (Lit.int .i64 (l.length : Int)).wf = true := Go.WalkArith.wf_i64 (by omega)
  obtain ⟨w3, hrun, hown, hturn⟩ := (World.ownsMap.drew h.map).store keyed Try.underlying33 (by unfold maxLen; omega) hkey (plainElem_int Try.underlying3 hwf)
  have hne : b ≠ g := by
    obtain ⟨es, ck, h1, _⟩ := h.map
    rintro rfl
    rw [h.blk] at h1; cases h1
  have hne2 : v.ownBlock ≠ some b := by
    intro e
    obtain ⟨cur, hc⟩ := own_type h.row e
    obtain ⟨es, ck, h1, _⟩ := h.map
    rw [hc] at h1; cases h1
  refine ⟨w3, hrun, ⟨(h.ch.step hw (grown_drew _) (by simp)).step hw hturn.grown (by rintro k ⟨⟩; exact ⟨h.ge, h.new⟩), blk_grown (w := W.drew) h.blk hturn.grown (by simpa using Ne.symm hne), hown, (h.row.kept (grown_drew _) (by cases v.ownBlock <;> simp)).kept hturn.grown (.inr hne2), h.ge, h.new⟩⟩

theorem Mid.done {base : Nat} {S : Nat → Prop} {w W W1 : World} {g b : Nat} {D : DataW Unit} {v v' : Value} {l : List ByteArray} {s : ByteArray} {o : Obj} (h : Mid base S w W g b (l.length + 1) D v l) (hw : base ≤ w.heap.size) (hg : base ≤ g) (hS : S g) (hsv : ∀ k, v.ownBlock = some k → S k)
    (hl : l.length < 4096) (hd : l.Nodup) (hm : mem l s = false) (hH : Holds D (l ++ [s]))
    (hr : W1.ownsRow base 9 1 v' (l.length + 1) (l.map Value.string ++ [.string s])) (hgr : (W.alloc o).grownBy W1 v.ownBlock) (hat : v'.ownBlock = v.ownBlock ∨ v'.ownBlock = some (W.alloc o).heap.size) :
    Tab (W1.setCell ⟨g, 1, none⟩ v') base g (fun k => S k ∨ w.heap.size ≤ k) (l ++ [s]) ∧ Ch base S w (W1.setCell ⟨g, 1, none⟩ v') := by
  have hne : some g ≠ v.ownBlock := own_ne h.row h.blk (by simp)
  have hne2 : some b ≠ v.ownBlock := by
    obtain ⟨es, ck, h1, _⟩ := h.map
    exact own_ne h.row h1 (by simp)
  have hsz := h.ch.2.1
  have hrow : ∀ k, v.ownBlock = some k → base ≤ k := fun k hk => (h.row.lt k hk).1
  refine ⟨tab_put (blk_grown (blk_alloc h.blk o) hgr hne) hg (.inl hS) h.ge h.new ((h.map.alloc o).kept hgr hne2) hH (by simpa using hr) (fun k hk => ?_) hl hd hm, ((h.ch.step hw (World.grownBy_alloc _ o none) (by simp)).step hw hgr (fun k hk => ⟨hrow k hk, .inl (hsv k hk)⟩)).step hw (grown_set _ g 1 v') (by rintro k ⟨⟩; exact ⟨hg, .inl hS⟩)⟩
  rcases hat with e | e
  · exact .inl (hsv k (e ▸ hk))
  · rw [e] at hk
    obtain rfl := Option.some.inj hk
    refine .inr ?_
    simp; omega

set_option maxHeartbeats 1000000 in
set_option maxRecDepth 100000 in
theorem add_calls_first {w : World} {base g : Nat} {S : Nat → Prop} {sv : Value} (h : TabAt w base g S (.map none) sv []) (s : ByteArray) (hs : s.size ≤ maxLen)
    (k : Nat) (hg : name_Good.f k s = some true) :
    Calls Try.prog 17 #[.pointer (some ⟨g, 0, none⟩), .string s] w fun e w' => e = .returned (.tuple #[.int .i64 0, .int .i64 0]) ∧ Tab w' base g (fun k => S k ∨ w.heap.size ≤ k) [s] ∧ Ch base S w w' := by
  have hf := find_calls ⟨_, _, h⟩ s hs
  have hG := name_Good.calls k s true w hg
  obtain ⟨i0, hi, hz0, hz1, hz2⟩ := info_parts info9
  obtain ⟨h1, h2, h3, h4, h5, h6⟩ := h
  have hmm := @run_makeMap Try.prog
  have heq := fun w => run_eql_map_nil (P := Try.prog) w 33 9 3 none Try.underlying33
  rw [show mem [] s = false from rfl, show num [] s = 0 from rfl] at hf
  obtain ⟨p, c, rfl⟩ := own_slice h5
  have hgl := blk_lt h1
  have hbw : base ≤ w.heap.size := by omega
  have hlen : ∀ w1, Below w.heap.size w w1 → Calls Try.prog 18 #[.pointer (some ⟨g, 0, none⟩)] w1 fun e w' => e = .returned (.int .i64 0) ∧ w' = w1 :=
    fun w1 hb => len_calls (n := 0) (blk_cell (blk_below h1 hb) 1)
  have mid : ∀ w1, Below w.heap.size w w1 → Mid base S w ((w1.alloc (.map #[] 0)).setCell ⟨g, 0, none⟩ (.map (some w1.heap.size))) g w1.heap.size 0 (.map []) (.slice p 0 c) [] := by
    intro w1 hb
    have hA := blk_alloc (blk_below h1 hb) (.map #[] 0)
    have hs1 := hb.size
    refine ⟨((Ch.refl w).step hbw (grown_of_below hb none) (by simp)).step hbw (World.grownBy_alloc _ (.map #[] 0) none) (by simp) |>.step hbw (grown_set _ g 0 _) (by rintro k ⟨⟩; exact ⟨h2, .inl h3⟩), by simpa using blk_set hA 0 (.map (some w1.heap.size)), (World.ownsMap_made w1 Try.prog 9 El).setCell (by simp; omega) _, ?_, by omega, .inr hs1⟩
    exact ((h5.kept (grown_of_below hb none) (by cases (Value.slice p 0 c).ownBlock <;> simp)).alloc (.map #[] 0)).kept (grown_set _ g 0 _) (.inr (own_ne h5 h1 (by simp)).symm)
  clear h4
  go_enter Try.func17, Try.ntmps17
  go_wp2_with (first
    | (go_at_call 22; with_reducible refine hf.mono ?_; rintro e w' ⟨rfl, hw⟩; obtain rfl := hw.symm)
    | (go_at_call 15; with_reducible refine hG.mono ?_; rintro e w1 ⟨rfl, hb⟩; have hb1 := blk_below h1 hb; have hc0 := cell_far hb1 0 _ rfl; have hA := blk_alloc hb1 (.map #[] 0); have hA0 := cell_far hA 0 _ rfl; have hAf := blk_frozen hA 0; have hM := mid w1 hb; obtain ⟨w3, hrun3, hN⟩ := Mid.put (l := []) hM hbw (by decide) s hs; have hrun4 : (Instr.mapUpdate 33 _ (.string s) (.int .i64 0)).run Try.prog _ = _ := hrun3; have hB0 := cell_far (blk_drew hM.blk) 0 _ rfl; have hC1 := cell_far hN.blk 1 _ rfl; have hlen2 := len_calls (cell_far (blk_drew hM.blk) 1 _ rfl))
    | (go_at_call 18; with_reducible refine (hlen _ hb).mono ?_; rintro e w' ⟨rfl, hw⟩; obtain rfl := hw.symm))
  clear hf hG hlen
  go_region_with (first
    | (go_at_call 18; with_reducible refine hlen2.mono ?_; rintro e w' ⟨rfl, hw⟩; obtain rfl := hw.symm))
  all_goals
    clear hlen2
    go_wp2_with (first
      | (at_builtin; refine wpList_append_own_at _ rfl _ _ 34 rfl base 9 i0 (.string ⟨#[]⟩) 1 16 Try.underlying34 hi hz0 hz1 hz2 rfl (by decide) _ 0 _ rfl (hN.row.alloc _) ⟨w3.heap.size, 0, none⟩ 1 1 [.string s] rfl rfl (cell_one_new _ _ _) (by simp [Value.oneCell']) (by decide) (by decide) (by have := hN.ch.2.1; simp; omega) ?_
         intro v' w5 hown5 hgrow5 hnil5 hblk5
         have hD := blk_grown (blk_alloc hN.blk (.cells #[.string s] 9)) hgrow5 (own_ne hN.row hN.blk (by simp))
         have hD1 := cell_far hD 1 _ rfl
         have hDf := blk_frozen hD 1
         have hfin := Mid.done (l := []) hN hbw h2 h3 h6.1 (by decide) List.nodup_nil rfl (keyed_put hs ⟨_, rfl⟩ (fun _ _ => ⟨rfl, rfl⟩) rfl) hown5 hgrow5 hblk5
         obtain ⟨p5, c5, rfl⟩ := own_slice hown5
         have hlen5 := len_calls (n := 1) (cell_far (blk_set hD 1 (.slice p5 1 c5)) 1 _ rfl))
      | (go_at_call 18; with_reducible refine hlen5.mono ?_; rintro e w' ⟨rfl, hw⟩; obtain rfl := hw.symm))
    go_ret2
    exact ⟨rfl, hfin⟩

set_option maxHeartbeats 1000000 in
set_option maxRecDepth 100000 in
theorem add_calls_more {w : World} {base g b : Nat} {S : Nat → Prop} {sv : Value} {l : List ByteArray} (h : TabAt w base g S (.map (some b)) sv l) (s : ByteArray) (hs : s.size ≤ maxLen)
    (k : Nat) (hg : name_Good.f k s = some true) (hm : mem l s = false) (hl : l.length < 4096) :
    Calls Try.prog 17 #[.pointer (some ⟨g, 0, none⟩), .string s] w fun e w' => e = .returned (.tuple #[.int .i64 l.length, .int .i64 0]) ∧ Tab w' base g (fun k => S k ∨ w.heap.size ≤ k) (l ++ [s]) ∧ Ch base S w w' := by
  have hf := find_calls ⟨_, _, h⟩ s hs
  have hG := name_Good.calls k s true w hg
  obtain ⟨i0, hi, hz0, hz1, hz2⟩ := info_parts info9
  obtain ⟨h1, h2, h3, h4, h5, h6, h7, h8⟩ := h
  have heq := fun w => run_eql_map_nil (P := Try.prog) w 33 9 3 (some b) Try.underlying33
  rw [hm] at hf
  generalize num l s = nm at hf
  obtain ⟨p, c, rfl⟩ := own_slice h5
  have hgl := blk_lt h1
  have hbw : base ≤ w.heap.size := by omega
  have hn0 : ((l.length : Int) == 4096) = false := by simp; omega
  have hn1 : wrap64 ((l.length : Int) + 1 - 1) = l.length := by unfold wrap64; omega
  have hlen : ∀ w1, Below w.heap.size w w1 → Calls Try.prog 18 #[.pointer (some ⟨g, 0, none⟩)] w1 fun e w' => e = .returned (.int .i64 l.length) ∧ w' = w1 :=
    fun w1 hb => len_calls (blk_cell (blk_below h1 hb) 1)
  obtain ⟨D, hbb, hSb, hmap, hH⟩ : ∃ D, base ≤ b ∧ S b ∧ w.ownsMap Try.prog 9 El b l.length D ∧ Holds D l := by
    rcases h4 with ⟨h, _⟩ | ⟨b', D, h, r⟩
    · cases h
    · cases h
      exact ⟨D, r⟩
  have mid : ∀ w1, Below w.heap.size w w1 → Mid base S w w1 g b l.length D (.slice p l.length c) l := by
    intro w1 hb
    exact ⟨(Ch.refl w).step hbw (grown_of_below hb none) (by simp), blk_below h1 hb, hmap.kept (grown_of_below hb none) (by simp), h5.kept (grown_of_below hb none) (by cases (Value.slice p l.length c).ownBlock <;> simp), hbb, .inl hSb⟩
  clear h4
  have hkp := keyed_put hs hmap.isMap hH hm
  go_enter Try.func17, Try.ntmps17
  go_wp2_with (first
    | (go_at_call 22; with_reducible refine hf.mono ?_; rintro e w' ⟨rfl, hw⟩; obtain rfl := hw.symm)
    | (go_at_call 15; with_reducible refine hG.mono ?_; rintro e w1 ⟨rfl, hb⟩; have hb1 := blk_below h1 hb; have hc0 := cell_far hb1 0 _ rfl; have hM := mid w1 hb; obtain ⟨w3, hrun3, hN⟩ := Mid.put hM hbw hl s hs; have hB0 := cell_far (blk_drew hM.blk) 0 _ rfl; have hC1 := cell_far hN.blk 1 _ rfl; have hlen2 := len_calls (cell_far (blk_drew hM.blk) 1 _ rfl))
    | (go_at_call 18; with_reducible refine (hlen _ hb).mono ?_; rintro e w' ⟨rfl, hw⟩; obtain rfl := hw.symm))
  clear hf hG hlen
  go_region_with (first
    | (go_at_call 18; with_reducible refine hlen2.mono ?_; rintro e w' ⟨rfl, hw⟩; obtain rfl := hw.symm))
  all_goals
    clear hlen2
    go_wp2_with (first
      | (at_builtin; refine wpList_append_own_at _ rfl _ _ 34 rfl base 9 i0 (.string ⟨#[]⟩) 1 16 Try.underlying34 hi hz0 hz1 hz2 rfl (by decide) _ l.length _ rfl (hN.row.alloc _) ⟨w3.heap.size, 0, none⟩ 1 1 [.string s] rfl rfl (cell_one_new _ _ _) (by simp [Value.oneCell']) (by unfold maxLen; omega) (by omega) (by have := hN.ch.2.1; simp; omega) ?_; intro v' w5 hown5 hgrow5 hnil5 hblk5; have hD := blk_grown (blk_alloc hN.blk (.cells #[.string s] 9)) hgrow5 (own_ne hN.row hN.blk (by simp)); have hD1 := cell_far hD 1 _ rfl; have hDf := blk_frozen hD 1; have hfin := Mid.done hN hbw h2 h3 h6 hl h8 hm hkp hown5 hgrow5 hblk5; obtain ⟨p5, c5, rfl⟩ := own_slice hown5; have hlen5 := len_calls (n := l.length + 1) (cell_far (blk_set hD 1 (.slice p5 (l.length + 1) c5)) 1 _ rfl))
      | (go_at_call 18; with_reducible refine hlen5.mono ?_; rintro e w' ⟨rfl, hw⟩; obtain rfl := hw.symm))
    go_ret2
    exact ⟨by simp [hn1], hfin⟩

theorem add_calls {w : World} {base g : Nat} {S : Nat → Prop} {l : List ByteArray} (h : Tab w base g S l) (s : ByteArray) (hs : s.size ≤ maxLen) (k : Nat) (gd : Bool) (hg : name_Good.f k s = some gd) :
    Calls Try.prog 17 #[.pointer (some ⟨g, 0, none⟩), .string s] w fun e w' => e = .returned (.tuple #[.int .i64 (addN l s gd), .int .i64 (addE l s gd)]) ∧ Tab w' base g (fun k => S k ∨ w.heap.size ≤ k) (addL l s gd) ∧ Ch base S w w' := by
  have hbw : base ≤ w.heap.size := Nat.le_of_lt (Nat.lt_of_le_of_lt h.lt.1 h.lt.2)
  have same : ∀ w', Below w.heap.size w w' → Tab w' base g (fun k => S k ∨ w.heap.size ≤ k) l ∧ Ch base S w w' := fun w' hb =>
    ⟨(h.below hb).mono fun _ => .inl, (Ch.refl w).step hbw (grown_of_below hb none) (by simp)⟩
  unfold addN addE addL
  by_cases hm : mem l s = true
  · simp only [hm, if_true]
    exact (add_calls_known h s hs hm).mono fun e w' ⟨he, hw⟩ => ⟨he, hw ▸ same _ (Below.refl _ _)⟩
  · rw [if_neg hm, if_neg hm, if_neg hm]
    simp only [Bool.not_eq_true] at hm
    cases gd with
    | false => exact (add_calls_bad h s hs hm k hg).mono fun e w' ⟨he, hw⟩ => ⟨he, same _ hw⟩
    | true =>
      simp only [Bool.not_true, Bool.false_eq_true, if_false]
      by_cases hl : l.length = 4096
      · rw [if_pos hl, if_pos hl, if_pos hl]
        exact (add_calls_full h s hs hm k hg hl).mono fun e w' ⟨he, hw⟩ => ⟨he, same _ hw⟩
      · rw [if_neg hl, if_neg hl, if_neg hl]
        obtain ⟨mv, sv, h⟩ := h
        have hlt : l.length < 4096 := by have := h.2.2.2.2.2.2.1; omega
        rcases h.2.2.2.1 with ⟨rfl, rfl⟩ | ⟨b, D, rfl, _⟩
        · exact add_calls_first h s hs k hg
        · exact add_calls_more h s hs k hg hm hlt

/-- A table that was just made. -/
theorem tab_new (w : World) {base : Nat} {S : Nat → Prop} (hb : base ≤ w.heap.size) (hS : S w.heap.size) : Tab (w.alloc (.cells #[.map none, .slice none 0 0] 36)) base w.heap.size S [] :=
  ⟨_, _, by simpa using heap_alloc_new w _, hb, hS, .inl ⟨rfl, rfl⟩, World.ownsRow_nil (w.alloc (.cells #[.map none, .slice none 0 0] 36)) base 9 1, (fun k hk => by simp [Value.ownBlock] at hk), by decide, List.nodup_nil⟩
#print axioms add_calls
end Go.Proofs.Ytcebjhbphcoboaa.Tbl
