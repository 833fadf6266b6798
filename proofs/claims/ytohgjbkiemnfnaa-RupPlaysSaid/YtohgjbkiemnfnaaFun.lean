/- slices.IndexFunc and slices.ContainsFunc over a row that is read, at elements of one cell: the function that is handed over may make memory of its own; it is asked of the row's elements alone. Over any program that lays them. -/
import Derived.Test.YtohgjbkiemnfnaaWa
import Derived.Test.YtohgjbkiemnfnaaWb
import Derived.Shelf.SlicesE.IndexFunc
import Derived.Deep.QuietTactic
namespace Go.Proofs.Ytohgjbkiemnfnaa.Fun
open Go Go.RowKit Go.Shelf Go.Proofs.YtohgjbkiemnfnaaW.PrintWords
/-- Where a row's element stands. -/
theorem row_at {α : Type} {d : Kd α} (h1 : d.sz = 1) {w : World} {A : Option Addr} {xs : List α} (hr : d.C w A xs.length xs) (hn : 0 < xs.length) :
    ∃ b off, A = some ⟨b, off, none⟩ ∧ b < w.heap.size ∧ ∀ j (hj : j < xs.length), ∃ u, d.K w xs[j] [u] ∧ w.cell? ⟨b, off + j, none⟩ = some u := by
  obtain ⟨_, _, hp⟩ := hr
  obtain ⟨⟨b, o, sp⟩, rfl, hcell⟩ := hp hn
  have get : ∀ j (hj : j < xs.length), ∃ u, d.K w xs[j] [u] ∧ w.cell? ((⟨b, o, sp⟩ : Addr).add j) = some u := by
    intro j hj
    obtain ⟨c, hc, hk, hi⟩ := hcell j xs[j] (List.getElem?_eq_getElem hj)
    rw [h1] at hc hi
    match c, hc with
    | [u], _ => exact ⟨u, hk, by have := hi 0 u rfl; rwa [show j * 1 + 0 = j by omega] at this⟩
  obtain ⟨u, _, h0⟩ := get 0 hn
  have hsp : sp = none := by
    cases sp with
    | none => rfl
    | some s =>
      rw [show (⟨b, o, some s⟩ : Addr).add 0 = ⟨b, o, some s⟩ from rfl] at h0
      unfold World.cell? at h0
      split at h0 <;> simp at h0
  subst hsp
  have hb : b < w.heap.size := by
    rw [show (⟨b, o, none⟩ : Addr).add 0 = ⟨b, o, none⟩ from rfl] at h0
    unfold World.cell? at h0
    split at h0
    · rename_i hh
      rcases Nat.lt_or_ge b w.heap.size with h | h
      · exact h
      · rw [Array.getElem?_eq_none h] at hh; cases hh
    · cases h0
  refine ⟨b, o, rfl, hb, fun j hj => ?_⟩
  obtain ⟨u, h1, h2⟩ := get j hj
  exact ⟨u, h1, by rwa [show (⟨b, o, none⟩ : Addr).add j = ⟨b, o + j, none⟩ from by unfold Addr.add; split <;> simp_all] at h2⟩
/-- The first place at which p holds, or -1. -/
def idxP {α : Type} (p : α → Bool) (xs : List α) : Int := if xs.any p = true then (xs.findIdx p : Nat) else -1
theorem idxP_any {α : Type} (p : α → Bool) (xs : List α) : decide (0 ≤ idxP p xs) = xs.any p := by
  unfold idxP
  by_cases h : xs.any p = true
  · rw [if_pos h, h]; simp
  · rw [if_neg h]; simp at h ⊢; exact h
theorem idxP_hit {α : Type} (p : α → Bool) (xs : List α) (k : Nat) (hk : k < xs.length) (h : p xs[k] = true) (hb : ∀ j (hj : j < xs.length), j < k → p xs[j] = false) : idxP p xs = k := by
  unfold idxP
  rw [if_pos (List.any_eq_true.mpr ⟨xs[k], List.getElem_mem hk, h⟩)]
  congr 1
  rw [List.findIdx_eq hk]
  exact ⟨h, fun j hj => hb j (by omega) hj⟩
theorem idxP_miss {α : Type} (p : α → Bool) (xs : List α) (hb : ∀ j (hj : j < xs.length), p xs[j] = false) : idxP p xs = -1 := by
  unfold idxP
  rw [if_neg]
  intro h
  obtain ⟨x, hx, hp⟩ := List.any_eq_true.mp h
  obtain ⟨j, hj, rfl⟩ := List.getElem_of_mem hx
  rw [hb j hj] at hp; cases hp
variable {P : Program} {ρ : Ren} {α : Type}
/-- What is asked of the function: at each element of the row. -/
def PredOn (P : Program) (g : Nat) (lb : Array Value) (d : Kd α) (p : α → Bool) (xs : List α) (w : World) : Prop :=
  ∀ x ∈ xs, ∀ u, d.K w x [u] → ∀ W, Below w.heap.size w W → Calls P g (#[u] ++ lb) W fun e W' => e = .returned (.bool (p x)) ∧ Below W.heap.size W W'
set_option maxHeartbeats 2000000 in
theorem index_func (L : SlLaysH.n6 P ρ) (d : Kd α) (h1 : d.sz = 1) (p : α → Bool) (g : Nat) (lb : Array Value) (eg : ∀ args w, (callFunc g args).run P w = .ok (.enter g args) w) (A : Option Addr) (c : Nat) (xs : List α) (w : World)
    (hr : d.C w A xs.length xs) (hp : PredOn P g lb d p xs w) :
    Calls P (ρ.f 6) #[.slice A xs.length c, .func (.func g) #[] lb] w fun e w' => e = .returned (.int .i64 (idxP p xs)) ∧ Below w.heap.size w w' := by
  rcases Nat.eq_zero_or_pos xs.length with h0 | h0
  · rw [h0, List.length_eq_zero_iff.mp h0]
    exact (AnyE.slices_IndexFunc_empty L A c _ w).mono fun _ _ ⟨he, hw⟩ => ⟨he, hw ▸ Below.refl _ _⟩
  · obtain ⟨b, off, rfl, hb, hcell⟩ := row_at h1 hr h0
    have hbig : xs.length ≤ 9223372036854775807 := hr.2.1
    clear hr
    have mixed := L.mixed; have t0 := L.t0; have a0 := L.a0; have z0 := L.z0; have v0 := L.v0; have t3 := L.t3; have a3 := L.a3; have z3 := L.z3; have v3 := L.v3; have t4 := L.t4; have a4 := L.a4; have z4 := L.z4; have v4 := L.v4; have t22 := L.t22; have a22 := L.a22; have z22 := L.z22; have v22 := L.v22; have a23 := L.a23; have z23 := L.z23; have t25 := L.t25; have a25 := L.a25; have z25 := L.z25; have v25 := L.v25
    have HP := Aside0.mk hp
    have HC := Aside0.mk hcell
    clear hp hcell
    obtain ⟨n, hn⟩ : ∃ n, xs.length = n := ⟨_, rfl⟩
    have HN := Aside0.mk hn
    rw [hn] at hbig h0
    rw [hn]
    clear hn
    obtain ⟨_, _, FG⟩ := L.f6
    go_enter FG, SlBodyH.n6_ntmps ρ
    go_wp2
    go_loopg [5, 8] n (fun gg _ s8 wr => ∃ kk : Nat, kk ≤ n ∧ n - kk ≤ gg ∧ s8 = .int .i64 kk ∧ Aside0 (Below w.heap.size w wr) ∧ Aside0 (∀ j (hj : j < xs.length), j < kk → p xs[j] = false))
    case atStart => exact ⟨0, Nat.zero_le _, by omega, rfl, ⟨Below.refl _ _⟩, ⟨fun j _ hj => absurd hj (Nat.not_lt_zero _)⟩⟩
    case round =>
      obtain ⟨kk, hkk, hg, rfl, HB, HA⟩ := hrel
      by_cases hlt : kk < n
      · have hltz : (kk : Int) < (n : Int) := by omega
        have hkx : kk < xs.length := by rw [HN.out]; exact hlt
        obtain ⟨u, hu1, hu2⟩ := HC.out kk hkx
        have hc2 : wr.cell? ⟨b, off + kk, none⟩ = some u := (HB.out.cell (p := ⟨b, off + kk, none⟩) hb).trans hu2
        have hcall := HP.out xs[kk] (List.getElem_mem hkx) u hu1 wr HB.out
        have HU := Aside0.mk hu2
        clear hu1 hu2
        obtain ⟨q, hq⟩ : ∃ q, p xs[kk] = q := ⟨_, rfl⟩
        rw [hq] at hcall
        have HQ := Aside0.mk hq
        clear hq
        cases q with
        | true =>
          go_wp2_with (go_at_fn g; refine hcall.mono ?_; rintro e w' ⟨rfl, hb'⟩)
          go_ret
          refine ⟨?_, below_step HB.out hb'⟩
          rw [idxP_hit p xs kk hkx HQ.out HA.out]
          rfl
        | false =>
          go_wp2_with (go_at_fn g; refine hcall.mono ?_; rintro e w' ⟨rfl, hb'⟩)
          go_roundg (n - (kk + 1))
          case measure => omega
          case rel =>
            refine ⟨kk + 1, by omega, by omega, by go_num, ⟨below_step HB.out hb'⟩, ⟨fun j hj hjk => ?_⟩⟩
            by_cases e : j = kk
            · subst e; exact HQ.out
            · exact HA.out j hj (by omega)
      · have hltz : ¬ (kk : Int) < (n : Int) := by omega
        have : kk = n := by omega
        subst this
        go_wp2
        go_ret
        refine ⟨?_, HB.out⟩
        rw [idxP_miss p xs fun j hj => HA.out j hj (by rw [← HN.out]; exact hj)]
        rfl
set_option maxHeartbeats 1000000 in
theorem contains_func (L : SlLaysH.n8 P ρ) (d : Kd α) (h1 : d.sz = 1) (p : α → Bool) (g : Nat) (lb : Array Value) (eg : ∀ args w, (callFunc g args).run P w = .ok (.enter g args) w) (A : Option Addr) (c : Nat) (xs : List α) (w : World)
    (hr : d.C w A xs.length xs) (hp : PredOn P g lb d p xs w) :
    Calls P (ρ.f 8) #[.slice A xs.length c, .func (.func g) #[] lb] w fun e w' => e = .returned (.bool (xs.any p)) ∧ Below w.heap.size w w' := by
  rw [← idxP_any]
  have hi := index_func (P := P) (ρ := ρ) { L with } d h1 p g lb eg A c xs w hr hp
  generalize idxP p xs = r at hi ⊢
  clear hr hp
  have mixed := L.mixed; have t0 := L.t0; have a0 := L.a0; have z0 := L.z0; have v0 := L.v0; have t3 := L.t3; have a3 := L.a3; have z3 := L.z3; have v3 := L.v3; have t4 := L.t4; have a4 := L.a4; have z4 := L.z4; have v4 := L.v4; have t22 := L.t22; have a22 := L.a22; have z22 := L.z22; have v22 := L.v22; have a23 := L.a23; have z23 := L.z23; have t25 := L.t25; have a25 := L.a25; have z25 := L.z25; have v25 := L.v25
  have e6 : ∀ args w, (callFunc (ρ.f 6) args).run P w = .ok (.enter (ρ.f 6) args) w := L.f6.enters rfl
  obtain ⟨_, _, FG⟩ := L.f8
  go_enter FG, SlBodyH.n8_ntmps ρ
  go_wp2_with (go_at_fn (ρ.f 6); refine hi.mono ?_; rintro e w' ⟨rfl, hb⟩)
  go_ret
  exact ⟨rfl, hb⟩
/-- At a call in a region that draws its order: a callee that may draw. -/
theorem quiet_drawn {f : FuncId} {args : Array Value} {w : World} {n : Nat} {v : Value}
    (h : Calls P f args (w.drewN n) fun e w' => e = .returned v ∧ Drawn0 (w.drewN n) w') : Calls P f args (w.drewN n) fun e w'' => e = .returned v ∧ ∃ m, w'' = w.drewN m :=
  h.mono fun _ _ ⟨he, ⟨m, hm⟩⟩ => ⟨he, n + m, by rw [hm, World.drewN_drewN]⟩
end Go.Proofs.Ytohgjbkiemnfnaa.Fun
