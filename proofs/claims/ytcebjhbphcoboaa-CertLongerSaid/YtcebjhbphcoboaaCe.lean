/- Certificates: a short number's bytes: the program's and the document's. Plain words, and a walk by hand. -/
import Derived.Test.YtcebjhbphcoboaaCa
import Derived.Test.YtcebjhbphcoboaaCn59
-- shrunk
namespace Go.Proofs.Ytcebjhbphcoboaa.Crt
open Go Go.RowKit Go.Proofs.Ytcebjhbphcoboaa.C Go.Proofs.Ytcebjhbphcoboaa.Hlp Go.Proofs.YtcebjhbphcoboaaW.PrintWords Go.Proofs.YtcebjhbphcoboaaW.PrintLast Go.Proofs.YtcebjhbphcoboaaW.PrintMore Go.Proofs.Ytcebjhbphcoboaa.Aid
attribute [local go_sem] max2_int min2_int max_two min_two
set_option linter.unusedVariables false
set_option linter.unusedSimpArgs false
/-- A number's bytes, behind others. -/
def putN : Nat → Int → List Int → List Int
 | 0, _, acc => acc
 | m + 1, v, acc => if v > 127 then putN m (v / 128) (acc ++ [v % 128 + 128]) else acc ++ [v]
def putP (v : Int) : List Int := putN 5 v []
set_option maxRecDepth 100000 in
theorem or_128 : ∀ y : Fin 256, Go.bits .or .u8 (y.val : Int) 128 = ((y.val % 128 : Nat) : Int) + 128 := by decide
theorem put_l0 : ∀ m (v : Int) (acc : List Int), 0 ≤ v → v < 128 ^ m → 1 ≤ m → m ≤ 5 → acc.length + m ≤ 100 → Ev (fun k => cert_Put.l0 k v acc) (putN m v acc) := by
 intro m
 induction m with
 | zero => intro v acc h0 h1 h2; omega
 | succ m ih =>
  intro v acc h0 h1 h2 h3 h4
  rw [putN]
  refine Ev.step (fun k => by rw [cert_Put.l0]) ?_
  by_cases hv : v > 127
  ·rw [if_pos hv]
   have hm : 1 ≤ m := by
    rcases Nat.eq_zero_or_pos m with e | e
    ·subst e; simp at h1; omega
    ·exact e
   have ho : Go.bits .or .u8 (v % 256) 128 = v % 128 + 128 := by
    have := or_128 ⟨(v % 256).toNat, by omega⟩
    simp only [Int.toNat_of_nonneg (show 0 ≤ v % 256 by omega)] at this
    rw [this]; omega
   refine ev_pos (by omega) (ev_pos (by omega) ?_)
   rw [ho]
   refine ih (v / 128) _ (by omega) ?_ hm (by omega) (by simp; omega)
   have : (128 : Int) ^ (m + 1) = 128 ^ m * 128 := Int.pow_succ ..
   omega
  ·rw [if_neg hv]
   refine ev_neg (by omega) (ev_pos (by omega) (ev_now ?_))
   rw [show v % 256 = v by omega]
theorem pow5 {v : Int} (h : v < 4294967296) : v < (128 : Int) ^ 5 := by
 have e : (128 : Int) ^ 5 = 34359738368 := by decide
 rw [e]; omega
theorem put_ev (v : Int) (h0 : 0 ≤ v) (h1 : v < 4294967296) : Ev (fun k => cert_Put.f k v) (putP v) := by
 unfold cert_Put.f putP
 exact put_l0 5 v [] h0 (pow5 h1) (by omega) (by omega) (by simp)
theorem byt_app {W1 : World} {base : Nat} {v' : Value} {xs : List Int} {b : Int} (h : W1.ownsRow base 5 1 v' (xs.length + 1) (byts xs ++ [.int .u8 b])) : W1.ownsRow base 5 1 v' (xs ++ [b]).length (byts (xs ++ [b])) := by
 simpa [byts] using h
set_option maxHeartbeats 4000000 in
set_option maxRecDepth 100000 in
theorem refPut_calls (w : World) (v : Int) (h0 : 0 ≤ v) (h1 : v < 4294967296) : Calls Try.prog 69 #[.int .u32 v] w fun e w' => ∃ u, e = .returned u ∧ w'.ownsRow w.heap.size 5 1 u (putP v).length (byts (putP v)) ∧ Below w.heap.size w w' := by
 obtain ⟨i0, hi, hz0, hz1, hz2⟩ := info_parts infoB'
 go_enter Try.func69, Try.ntmps69
 go_wp2
 go_loopw [0, 3] (fun v0 v3 wr => ∃ (m : Nat) (x : Int) (acc : List Int), v0 = .int .u32 x ∧ 0 ≤ x ∧ x < 4294967296 ∧ x < 128 ^ m ∧ 1 ≤ m ∧ acc.length + m ≤ 5 ∧ putN m x acc = putP v ∧ wr.ownsRow w.heap.size 5 1 v3 acc.length (byts acc) ∧ Below w.heap.size w wr)
  (fun v0 _ _ => (intOf v0).toNat)
 case atStart => exact ⟨5, v, [], rfl, h0, h1, pow5 h1, by omega, by simp, rfl, World.ownsRow_nil _ _ _ _, Below.refl _ _⟩
 case round =>
  obtain ⟨m, x, acc, rfl, hx0, hx1, hxm, hm, hl, hp, hown, hB⟩ := hrel
  obtain ⟨p3, c3, rfl⟩ := Hlp.own_slice hown
  have hm63 : acc.length + 1 ≤ maxLen := by unfold maxLen; omega
  have hby : (acc.length + 1) * 1 ≤ 140737488355328 := by omega
  obtain ⟨m, rfl⟩ : ∃ k, m = k + 1 := ⟨m - 1, by omega⟩
  rw [putN] at hp
  by_cases hv : x > 127
  ·rw [if_pos hv] at hp
   have hvI : 127 < x := hv
   have HP := Aside0.mk hp
   clear hp
   have hm2 : 1 ≤ m := by
    rcases Nat.eq_zero_or_pos m with e | e
    ·subst e; simp at hxm; omega
    ·exact e
   have hpw : (128 : Int) ^ (m + 1) = 128 ^ m * 128 := Int.pow_succ ..
   have hx128 : x / 128 < (128 : Int) ^ m := by omega
   clear hpw hxm
   go_wp2_with (first
    | (at_builtin; refine wpList_append_own_at _ rfl _ _ 22 rfl w.heap.size 5 i0 (.int .u8 0) 1 1 Try.underlying22 hi hz0 hz1 hz2 rfl (by decide) _ _ _ rfl (hown.alloc _) ⟨wr.heap.size, 0, none⟩ 1 1 [.int .u8 (x % 128 + 128)] rfl rfl (cell_one_new _ _ _) (by simp [Value.oneCell']) hm63 hby (Nat.le_trans hB.size (World.grownBy_alloc wr _ none).size) ?_; intro v9 w9 hown9 hgrow9 hnil9 hblk9; have hB9 : Below w.heap.size w w9 := (hB.alloc hB.size _).grown hgrow9 (Nat.le_trans hB.size (World.grownBy_alloc wr _ none).size) (fun q e => (hown.lt q e).1)))
   exact ⟨⟨m, x / 128, acc ++ [x % 128 + 128], rfl, by omega, by omega, hx128, hm2, by rw [List.length_append, List.length_singleton]; omega, HP.out, byt_app hown9, hB9⟩, by simp [intOf]; omega⟩
  ·rw [if_neg hv] at hp
   have hvI : ¬ 127 < x := hv
   have HP := Aside0.mk hp
   clear hp
   clear hxm
   go_wp2_with (first
    | (at_builtin; refine wpList_append_own_at _ rfl _ _ 22 rfl w.heap.size 5 i0 (.int .u8 0) 1 1 Try.underlying22 hi hz0 hz1 hz2 rfl (by decide) _ _ _ rfl (hown.alloc _) ⟨wr.heap.size, 0, none⟩ 1 1 [.int .u8 (x)] rfl rfl (cell_one_new _ _ _) (by simp [Value.oneCell']) hm63 hby (Nat.le_trans hB.size (World.grownBy_alloc wr _ none).size) ?_; intro v9 w9 hown9 hgrow9 hnil9 hblk9; have hB9 : Below w.heap.size w w9 := (hB.alloc hB.size _).grown hgrow9 (Nat.le_trans hB.size (World.grownBy_alloc wr _ none).size) (fun q e => (hown.lt q e).1)))
   go_ret
   rw [← HP.out]
   exact ⟨_, rfl, byt_app hown9, hB9⟩
end Go.Proofs.Ytcebjhbphcoboaa.Crt
