/- What is played: a store behind acts, and the clauses by the document beside it: both hold the same. A walk by hand. -/
import Derived.Test.YtohgjbkiemnfnaaUf
import Derived.Test.YtohgjbkiemnfnaaRn43
import Derived.Deep.RegionLaw
namespace Go.Proofs.Ytohgjbkiemnfnaa.Rup
open Go Go.RowKit Go.Proofs.Ytohgjbkiemnfnaa.R Go.Proofs.Ytohgjbkiemnfnaa.Hlp Go.Proofs.Ytohgjbkiemnfnaa.Aid Go.Proofs.Ytohgjbkiemnfnaa.Clause12 Go.Proofs.Ytohgjbkiemnfnaa.Clean12 Go.Proofs.YtohgjbkiemnfnaaW.PrintWords Go.Proofs.YtohgjbkiemnfnaaW.PrintLast Go.Proofs.YtohgjbkiemnfnaaW.PrintMore
attribute [local go_sem] max2_int min2_int max_two min_two
set_option linter.unusedVariables false
set_option linter.unusedSimpArgs false
def stepX (X : List (List Int)) (a : S88) : List (List Int) :=
  if a.f0 = 2 then (if findP X a.f1 ≥ 0 then dropL X (findP X a.f1).toNat else X) else if (cl2 a.f1).2 = true then X ++ [(cl2 a.f1).1] else X
def playX (l : List S88) : List (List Int) := l.foldl stepX []
theorem play_snoc (l : List S88) (i : Nat) (h : i < l.length) : playX (l.take (i + 1)) = stepX (playX (l.take i)) l[i] := by
  unfold playX
  rw [List.take_succ_eq_append_getElem h, List.foldl_append]; rfl
theorem drop_len {α : Type} (X : List α) (i : Nat) : (dropL X i).length ≤ X.length := by unfold dropL; rw [List.length_append, List.length_take, List.length_drop]; omega
theorem step_len (X : List (List Int)) (a : S88) : (stepX X a).length ≤ X.length + 1 := by
  unfold stepX
  split
  · split
    · have := drop_len X (findP X a.f1).toNat; omega
    · omega
  · split
    · simp
    · omega
theorem play_len (l : List S88) (i : Nat) (h : i ≤ l.length) : (playX (l.take i)).length ≤ i := by
  induction i with
  | zero => simp [playX]
  | succ i ih =>
    rw [play_snoc l i h]
    have := ih (by omega)
    have := step_len (playX (l.take i)) l[i]
    omega
theorem mem_dropL {α : Type} {X : List α} {i : Nat} {x : α} (h : x ∈ dropL X i) : x ∈ X := by
  unfold dropL at h
  rcases List.mem_append.mp h with h | h
  · exact List.mem_of_mem_take h
  · exact List.mem_of_mem_drop h
/-- What each clause that is there is. -/
def Clean (X : List (List Int)) : Prop := ∀ c ∈ X, (cl2 c).2 = true ∧ (cl2 c).1 = c ∧ c.length ≤ 12
theorem step_clean {X : List (List Int)} (h : Clean X) {a : S88} (ha : a.f1.length ≤ 12) : Clean (stepX X a) := by
  unfold stepX
  split
  · split
    · exact fun c hc => h c (mem_dropL hc)
    · exact h
  · split
    · rename_i hc
      intro c hm
      rcases List.mem_append.mp hm with hm | hm
      · exact h c hm
      · rw [List.mem_singleton] at hm
        subst hm
        rw [clean_id hc]
        exact ⟨rfl, rfl, by have := (cl2_ok hc).2.2.2.2.1; omega⟩
    · exact h
theorem play_clean (l : List S88) (hl : ∀ a ∈ l, a.f1.length ≤ 12) (i : Nat) (h : i ≤ l.length) : Clean (playX (l.take i)) := by
  induction i with
  | zero => intro c hc; simp [playX] at hc
  | succ i ih =>
    rw [play_snoc l i h]
    exact step_clean (ih (by omega)) (hl _ (List.getElem_mem h))
theorem Clean.ok {X : List (List Int)} (h : Clean X) : ClsOk X := fun c hc => by
  obtain ⟨h1, h2, h3⟩ := h c hc
  have := cl2_clauses h1 (by omega)
  rwa [h2] at this
theorem Clean.flat {X : List (List Int)} (h : Clean X) : X.flatten.length ≤ 12 * X.length := by
  induction X with
  | nil => simp
  | cons c X ih =>
    rw [List.flatten_cons, List.length_append, List.length_cons]
    have h1 := (h c (List.mem_cons_self ..)).2.2
    have h2 := ih fun d hd => h d (List.mem_cons_of_mem _ hd)
    omega
/-! How many. -/
theorem rd88_nat (l : List S88) (n : Nat) (h : n < l.length) : rd_T88 l (n : Int) = l[n] := by
  unfold rd_T88
  rw [Int.toNat_natCast]
  simp [List.getD_eq_getElem?_getD, List.getElem?_eq_getElem h]
theorem few_l0 (l : List S88) (hl : l.length ≤ 30) : ∀ m n : Nat, l.length - n = m → n ≤ l.length → Ev (fun k => ferrulelaw22_few.l0 k l (n : Int)) ((l.drop n).all fun s => decide (s.f1.length ≤ 12)) := by
  intro m
  induction m with
  | zero =>
    intro n hm hn
    refine Ev.step (fun k => by rw [ferrulelaw22_few.l0]) (ev_neg (by omega) (ev_now ?_))
    rw [List.drop_eq_nil_of_le (by omega)]; rfl
  | succ m ih =>
    intro n hm hn
    have hlt : n < l.length := by omega
    rw [List.drop_eq_getElem_cons hlt, ← rd88_nat l n hlt, List.all_cons]
    refine Ev.step (fun k => by rw [ferrulelaw22_few.l0]) (ev_pos (by omega) (ev_pos (by omega) ?_))
    by_cases g : (((rd_T88 l n).f1).length : Int) > 12
    · refine ev_pos g (ev_now ?_)
      rw [decide_eq_false (by omega)]; rfl
    · rw [decide_eq_true (show (rd_T88 l (n : Int)).f1.length ≤ 12 by omega), Bool.true_and, wrap64_in (by omega) (by omega)]
      exact ev_neg g (ih (n + 1) (by omega) (by omega))
def fewP (l : List S88) : Bool := decide (l.length ≤ 30) && l.all fun s => decide (s.f1.length ≤ 12)
theorem few_ev (l : List S88) : Ev (fun k => ferrulelaw22_few.f k l) (fewP l) := by
  unfold ferrulelaw22_few.f fewP
  by_cases h1 : (l.length : Int) > 30
  · refine ev_pos h1 (ev_now ?_)
    rw [decide_eq_false (by omega)]; rfl
  refine ev_neg h1 ?_
  rw [decide_eq_true (show l.length ≤ 30 by omega), Bool.true_and]
  have := few_l0 l (by omega) _ 0 rfl (Nat.zero_le _)
  rwa [List.drop_zero] at this
theorem few_iff {l : List S88} (h : fewP l = true) : l.length ≤ 30 ∧ ∀ a ∈ l, a.f1.length ≤ 12 := by
  unfold fewP at h
  simpa using h
/-! A row cut off. -/
theorem hd_cut {b n c k : Nat} (hk : k < n) (hnc : n ≤ c) : ∃ A', (∀ W : World, (Instr.slice 45 (.slice (some ⟨b, 0, none⟩) n c) (some (.int .i64 ((k : Int) + 1))) none none).run Try.prog W = .ok (.slice A' (n - (k + 1)) (c - (k + 1))) W) ∧ A' ≠ none ∧
    ∀ (W : World) (us : List Value), us.length = n → (∀ j u, us[j]? = some u → W.cell? ⟨b, j, none⟩ = some u) → ∀ a, A' = some a → ∀ j u, (us.drop (k + 1))[j]? = some u → W.cell? (a.add j) = some u := by
  obtain ⟨i0, hi, hz0, hz1, hz2⟩ := info_parts infoH
  have hel : Try.prog.elem 45 = 22 := by simp [Program.elem, Try.underlying45]
  have hu : Try.prog.underlying 45 = some (.slice (Try.prog.elem 45)) := by rw [hel]; exact Try.underlying45
  refine ⟨if c = k + 1 then some ⟨b, 0, none⟩ else some ⟨b, k + 1, none⟩, fun W => ?_, by split <;> simp, fun W us hl hc a ha j u hj => ?_⟩
  · rw [run_slice_l W 45 (some ⟨b, 0, none⟩) n c hu .i64 ((k : Int) + 1) (by omega) (by omega), hel, show ((k : Int) + 1).toNat = k + 1 by omega]
    by_cases h : c = k + 1
    · simp [sizeOf, typeInfo, hi, hz1, sliced, Result.andThen, h]
    · simp [sizeOf, typeInfo, hi, hz1, sliced, Result.andThen, h, Addr.add]
  · rw [List.getElem?_drop] at hj
    split at ha
    · rename_i h
      have := (List.getElem?_eq_some_iff.mp hj).1
      omega
    · cases ha
      rw [show (⟨b, k + 1, none⟩ : Addr).add j = ⟨b, k + 1 + j, none⟩ from by unfold Addr.add; split <;> simp_all]
      exact hc _ _ hj
theorem hd_take {b n c k : Nat} (hk : k ≤ n) (hnc : n ≤ c) : ∀ W : World, (Instr.slice 45 (.slice (some ⟨b, 0, none⟩) n c) none (some (.int .i64 (k : Int))) none).run Try.prog W = .ok (.slice (some ⟨b, 0, none⟩) k c) W := by
  obtain ⟨i0, hi, hz0, hz1, hz2⟩ := info_parts infoH
  have hel : Try.prog.elem 45 = 22 := by simp [Program.elem, Try.underlying45]
  have hu : Try.prog.underlying 45 = some (.slice (Try.prog.elem 45)) := by rw [hel]; exact Try.underlying45
  intro W
  rw [run_slice_h W 45 (some ⟨b, 0, none⟩) n c hu .i64 (k : Int) (by omega) (by omega), hel, Int.toNat_natCast]
  simp [sizeOf, typeInfo, hi, hz1, sliced, Result.andThen, Addr.add]
theorem RR.dropped {W : World} {base base' : Nat} {v : Value} {P : List (Hd × List Int)} {us : List Value} {n k : Nat} (hb : base ≤ base') (hp : ∀ p ∈ P, W.ownsRow base 3 1 (hd p.1) p.2.length (ints p.2)) (hus : (P.map (·.1)).map hd = us) (hn : P.length = n) (hk : k < n) (ho : W.ownsRow base' 22 1 v (0 + k + (n - (k + 1))) ([] ++ us.take k ++ us.drop (k + 1))) : RR W base v (dropL (P.map (·.2)) k) := by
  refine ⟨dropL P k, by unfold dropL; rw [List.map_append, List.map_take, List.map_drop], own_hk ?_, fun p hpm => hp p (mem_dropL hpm)⟩
  have hl : ((dropL P k).map (·.1)).length = 0 + k + (n - (k + 1)) := by
    unfold dropL
    rw [List.length_map, List.length_append, List.length_take, List.length_drop]
    omega
  have he : ((dropL P k).map (·.1)).map hd = [] ++ us.take k ++ us.drop (k + 1) := by
    rw [← hus]
    unfold dropL
    simp
  rw [hl, he]
  exact Hlp.own_base ho hb
theorem RR.parts {W : World} {base : Nat} {v : Value} {X : List (List Int)} (h : RR W base v X) : ∃ P : List (Hd × List Int), X = P.map (·.2) ∧ HK.R 22 W base (fun _ => True) v (P.map (·.1)) ∧ ∀ p ∈ P, W.ownsRow base 3 1 (hd p.1) p.2.length (ints p.2) := h
theorem RR.open_ {W : World} {base : Nat} {v : Value} {X : List (List Int)} (h : RR W base v X) : ∃ us, W.ownsRow base 22 1 v X.length us ∧ ∀ (W1 : World) (v1 : Value) (A : Option Addr) (c : Nat) (x : List Int), W.ownsRow base 3 1 (.slice A x.length c) x.length (ints x) → W.grownBy W1 v.ownBlock → W1.ownsRow base 22 1 v1 (X.length + 1) (us ++ [.slice A x.length c]) → RR W1 base v1 (X ++ [x]) := by
  obtain ⟨P, rfl, hR, hp⟩ := h
  have ho := hk_own hR
  rw [List.length_map] at ho ⊢
  exact ⟨_, ho, fun W1 v1 A c x hx hg h1 => RR.put (h := (A, x.length, c)) hR hp hx hg h1⟩
theorem row3_kept {W W' : World} {base base' g n : Nat} {v u : Value} {X2 : List (List Int)} {xs : List Value} (h : W.ownsRow base' 3 1 u n xs) (hS : ST W base g v X2) (hK : Kept W W' (StS g v)) : W'.ownsRow base' 3 1 u n xs := by
  obtain ⟨us2, hul2, huo2, _⟩ := hS.2.2.own
  refine own_at h fun k hk => ?_
  obtain ⟨cur, hc⟩ := own_type h hk
  refine hK.2 k (blk_lt hc) ?_
  rintro (rfl | hn)
  · rw [hS.1] at hc; simp at hc
  · obtain ⟨cur2, hc2⟩ := own_type huo2 hn
    rw [hc] at hc2; simp at hc2
theorem RR.keptST {W W' : World} {base g : Nat} {v vx : Value} {X X2 : List (List Int)} (h : RR W base vx X) (hS : ST W base g v X2) (hK : Kept W W' (StS g v)) (hd : vx.ownBlock = none ∨ vx.ownBlock ≠ v.ownBlock) : RR W' base vx X := by
  obtain ⟨us, hul, huo, _⟩ := h.own
  obtain ⟨us2, hul2, huo2, _⟩ := hS.2.2.own
  refine h.at_ fun k hk => ?_
  rcases hk with hk | ⟨cur, hk⟩
  · refine hK.2 k (huo.lt k hk).2 ?_
    rintro (rfl | hn)
    · exact Hlp.own_ne huo hS.1 (by simp) hk.symm
    · rcases hd with h | h
      · rw [hk] at h; cases h
      · exact h (hk.trans hn.symm)
  · refine hK.2 k (blk_lt hk) ?_
    rintro (rfl | hn)
    · rw [hS.1] at hk; simp at hk
    · obtain ⟨cur2, hc2⟩ := own_type huo2 hn
      rw [hk] at hc2; simp at hc2
theorem apart_kept {W : World} {base : Nat} {v v' vx : Value} {X : List (List Int)} (h : RR W base vx X) (hd : vx.ownBlock = none ∨ vx.ownBlock ≠ v.ownBlock) (hv : v'.ownBlock = v.ownBlock ∨ ∃ k, v'.ownBlock = some k ∧ W.heap.size ≤ k) : vx.ownBlock = none ∨ vx.ownBlock ≠ v'.ownBlock := by
  rcases hv with e | ⟨k, e, hk⟩
  · rw [e]; exact hd
  · obtain ⟨us, hul, huo, _⟩ := h.own
    cases hb : vx.ownBlock with
    | none => exact .inl rfl
    | some jj =>
      right
      rw [e]
      intro e2
      have := (huo.lt jj hb).2
      cases e2
      omega
theorem ST.grownX {W W1 : World} {base g : Nat} {v vx : Value} {X X2 : List (List Int)} (hS : ST W base g v X) (hx : RR W base vx X2) (hap : vx.ownBlock = none ∨ vx.ownBlock ≠ v.ownBlock) (hg : W.grownBy W1 vx.ownBlock) : ST W1 base g v X := by
  obtain ⟨us, hul, huo, _⟩ := hx.own
  refine ⟨blk_grown hS.1 hg (Hlp.own_ne huo hS.1 (by simp)), hS.2.1, hS.2.2.kept hg ?_ fun k hk cur hc => ?_⟩
  · rcases hap with h | h
    · rw [h]; cases v.ownBlock <;> simp
    · exact .inr h.symm
  · obtain ⟨cur2, hc2⟩ := own_type huo hk
    rw [hc] at hc2; simp at hc2
theorem apart_new {W : World} {base g : Nat} {v vx v7 : Value} {X : List (List Int)} (hS : ST W base g v X) (hap : vx.ownBlock = none ∨ vx.ownBlock ≠ v.ownBlock) (h : v7.ownBlock = vx.ownBlock ∨ v7.ownBlock = some W.heap.size) : v7.ownBlock = none ∨ v7.ownBlock ≠ v.ownBlock := by
  rcases h with e | e
  · rw [e]; exact hap
  · right
    rw [e]
    intro e2
    obtain ⟨us, hul, huo, _⟩ := hS.2.2.own
    have := (huo.lt _ e2.symm).2
    omega
theorem cl2_cases (C : List Int) : ((cleanP C).2 = true ∧ (cl2 C).2 = false) ∨ ((cleanP C).2 = false ∧ gd C = true ∧ (cl2 C).2 = true ∧ (cl2 C).1 = (cleanP C).1) ∨ ((cleanP C).2 = false ∧ gd C = false ∧ (cl2 C).2 = false) := by
  unfold cl2
  cases h1 : (cleanP C).2 <;> cases h2 : gd C <;> simp
set_option maxHeartbeats 8000000 in
set_option maxRecDepth 100000 in
theorem played_calls {w : World} {A : Option Addr} {c : Nat} {l : List S88} (hr : Kd.C k88 w A l.length l) (hc : l.length ≤ c) (hf : fewP l = true) :
    Calls Try.prog 44 #[.slice A l.length c] w fun e w' => ∃ g v vx, e = .returned (.tuple #[.pointer (some ⟨g, 0, none⟩), vx, .bool true]) ∧ ST w' w.heap.size g v (playX l) ∧ RR w' w.heap.size vx (playX l) ∧ Below w.heap.size w w' ∧ (vx.ownBlock = none ∨ vx.ownBlock ≠ v.ownBlock) := by
  obtain ⟨i0, hi, hz0, hz1, hz2⟩ := info_parts infoH
  obtain ⟨hl30, hl12⟩ := few_iff hf
  have hg0 := blk_new w (.cells #[.slice none 0 0] 86)
  have hBg : Below w.heap.size w (w.alloc (.cells #[.slice none 0 0] 86)) := (Below.refl _ _).alloc (Nat.le_refl _) _
  go_enter Try.func44, Try.ntmps44
  go_wp2_with fail
  go_loopw [6, 7] (fun v6 v7 wr => ∃ (i : Nat) (v : Value), i ≤ l.length ∧ v7 = .int .i64 i ∧ ST wr w.heap.size w.heap.size v (playX (l.take i)) ∧ RR wr w.heap.size v6 (playX (l.take i)) ∧ Below w.heap.size w wr ∧ (v6.ownBlock = none ∨ v6.ownBlock ≠ v.ownBlock))
    (fun _ v7 _ => l.length - (intOf v7).toNat)
  case atStart => exact ⟨0, .slice none 0 0, Nat.zero_le _, rfl, ⟨hg0, Nat.le_refl _, RR.nil _ _⟩, RR.nil _ _, hBg, .inl rfl⟩
  case round =>
    obtain ⟨i, v, hil, rfl, hS, hX, hB, hap⟩ := hrel
    by_cases hi1 : i < l.length
    case neg =>
      have hiI : ¬ (i : Int) < (l.length : Int) := by omega
      rw [List.take_of_length_le (by omega)] at hS hX
      obtain ⟨Ax, cx, rfl, hcx, hCx⟩ := hX.reads
      go_wp2_with fail
      go_ret3
      exact ⟨w.heap.size, v, _, rfl, hS, hX, hB, hap⟩
    case pos =>
      have hiI : (i : Int) < (l.length : Int) := by omega
      obtain ⟨ad, A1, c1, rfl, hf0, hf1, hc1, hR1⟩ := at_T88 hr (i : Int) (by omega) hiI
      rw [Int.toNat_natCast] at hf0 hf1
      have hcl := play_clean l hl12 i hil
      have hpl := play_len l i hil
      have hsn := play_snoc l i hi1
      rw [rd88_nat l i hi1] at hf0 hf1 hR1 hc1
      have hC12 := hl12 _ (List.getElem_mem hi1)
      unfold stepX at hsn
      generalize playX (l.take i) = X at *
      generalize l[i].f1 = C at *
      generalize l[i].f0 = kd at *
      have HSN := Aside0.mk hsn
      clear hsn
      obtain ⟨kc, hkc⟩ := (cleanR_ev C (by omega)).rounds
      obtain ⟨kg, hkg⟩ := (refGood_ev C (by omega)).rounds
      obtain ⟨kf, hkf⟩ := (refFind_ev X (fun d hd => by have := (hcl d hd).2.2; omega) (by omega) C (by omega)).rounds
      have hcl34 := fun W (hB : Below w.heap.size w W) => ferruleref12_Clean.calls kc A1 c1 C (cleanP C).1 (cleanP C).2 W (Kd.C_below hR1 hB) hc1 hkc
      have hgd37 := fun W (hB : Below w.heap.size w W) => ferruleref12_Good.calls kg A1 c1 C 16777216 (gd C) W (Kd.C_below hR1 hB) hc1 hkg
      have h0r := cell_below hf0 hB
      have h1r := cell_below hf1 hB
      obtain ⟨Ax, cx, rfl, hcx, hCx⟩ := hX.reads
      by_cases hkd : kd = 2
      case pos =>
        subst hkd
        have hsn : playX (l.take (i + 1)) = if findP X C ≥ 0 then dropL X (findP X C).toNat else X := by rw [HSN.out, if_pos rfl]
        clear HSN
        have hfind := fun W (hC : Kd.C (Kd.slice 3 (Kd.int .i64)) W Ax X.length X) (hB : Below w.heap.size w W) => ferruleref22_Find.calls kf Ax cx X A1 c1 C (findP X C) W hC hcx (Kd.C_below hR1 hB) hc1 hkf
        have hdrop := fun (W : World) (v : Value) (hS : ST W w.heap.size w.heap.size v X) (hB : Below w.heap.size w W) => drop_calls (w0 := w) hS (by omega) hB hB.size (Kd.C_below hR1 hB) hc1 (lits := C) (by omega)
        by_cases hq : findP X C ≥ 0
        case neg =>
          rw [if_neg hq] at hsn
          rw [decide_eq_false hq, if_neg hq] at hdrop
          clear hkf
          generalize findP X C = q at *
          have hq0 : ¬ (0 : Int) ≤ q := hq
          have hq1 : ¬ q ≥ 0 := hq
          clear hq
          rcases cl2_cases C with ⟨ha, _⟩ | ⟨ha, hg, _⟩ | ⟨ha, hg, _⟩
          · rw [ha] at hcl34
            go_wp2_with (first
              | (go_at_call 34; with_reducible refine (hcl34 _ hB).mono ?_; rintro e w1 ⟨v1, rfl, hRc, hB1⟩; have hBw1 := hB.trans (hB1.mono hB.size); have h01 := cell_below hf0 hBw1; have h11 := cell_below hf1 hBw1; obtain ⟨Ac, cc, rfl⟩ := Kd.R_slice hRc; have hBr2 := hB1; have hBw2 := hBw1; have hfi := hfind w1 (Kd.C_below hCx hBr2) hBw2)
              | (go_at_call 49; with_reducible refine hfi.mono ?_; rintro e w3 ⟨rfl, hB3⟩; have hBr3 := hBr2.trans (hB3.mono hBr2.size); have hBw3 := hB.trans (hBr3.mono hB.size); have h03 := cell_below hf0 hBw3; have h13 := cell_below hf1 hBw3; have hS3 := hS.below hBr3; have hX3 := hX.below hBr3; have hd80 := hdrop w3 v hS3 hBw3)
              | (go_at_call 80; with_reducible refine hd80.mono ?_; rintro e w4 ⟨v4, rfl, hS4, hBw4, hK4, hv4⟩; have hX4 := hX3.keptST hS3 hK4 hap; have hap4 := apart_kept hX3 hap hv4))
            exact ⟨⟨i + 1, v4, hi1, rfl, by rw [hsn]; exact hS4, by rw [hsn]; exact hX4, hBw4, hap4⟩, by simp [intOf]; omega⟩
          · rw [ha] at hcl34
            rw [hg] at hgd37
            go_wp2_with (first
              | (go_at_call 34; with_reducible refine (hcl34 _ hB).mono ?_; rintro e w1 ⟨v1, rfl, hRc, hB1⟩; have hBw1 := hB.trans (hB1.mono hB.size); have h01 := cell_below hf0 hBw1; have h11 := cell_below hf1 hBw1; obtain ⟨Ac, cc, rfl⟩ := Kd.R_slice hRc)
              | (go_at_call 37; with_reducible refine (hgd37 _ hBw1).mono ?_; rintro e w2 ⟨rfl, hD2⟩; have hBr2 := hB1.trans (hD2.below.mono hB1.size); have hBw2 := hB.trans (hBr2.mono hB.size); have h02 := cell_below hf0 hBw2; have h12 := cell_below hf1 hBw2; have hfi := hfind w2 (Kd.C_below hCx hBr2) hBw2)
              | (go_at_call 49; with_reducible refine hfi.mono ?_; rintro e w3 ⟨rfl, hB3⟩; have hBr3 := hBr2.trans (hB3.mono hBr2.size); have hBw3 := hB.trans (hBr3.mono hB.size); have h03 := cell_below hf0 hBw3; have h13 := cell_below hf1 hBw3; have hS3 := hS.below hBr3; have hX3 := hX.below hBr3; have hd80 := hdrop w3 v hS3 hBw3)
              | (go_at_call 80; with_reducible refine hd80.mono ?_; rintro e w4 ⟨v4, rfl, hS4, hBw4, hK4, hv4⟩; have hX4 := hX3.keptST hS3 hK4 hap; have hap4 := apart_kept hX3 hap hv4))
            exact ⟨⟨i + 1, v4, hi1, rfl, by rw [hsn]; exact hS4, by rw [hsn]; exact hX4, hBw4, hap4⟩, by simp [intOf]; omega⟩
          · rw [ha] at hcl34
            rw [hg] at hgd37
            go_wp2_with (first
              | (go_at_call 34; with_reducible refine (hcl34 _ hB).mono ?_; rintro e w1 ⟨v1, rfl, hRc, hB1⟩; have hBw1 := hB.trans (hB1.mono hB.size); have h01 := cell_below hf0 hBw1; have h11 := cell_below hf1 hBw1; obtain ⟨Ac, cc, rfl⟩ := Kd.R_slice hRc)
              | (go_at_call 37; with_reducible refine (hgd37 _ hBw1).mono ?_; rintro e w2 ⟨rfl, hD2⟩; have hBr2 := hB1.trans (hD2.below.mono hB1.size); have hBw2 := hB.trans (hBr2.mono hB.size); have h02 := cell_below hf0 hBw2; have h12 := cell_below hf1 hBw2; have hfi := hfind w2 (Kd.C_below hCx hBr2) hBw2)
              | (go_at_call 49; with_reducible refine hfi.mono ?_; rintro e w3 ⟨rfl, hB3⟩; have hBr3 := hBr2.trans (hB3.mono hBr2.size); have hBw3 := hB.trans (hBr3.mono hB.size); have h03 := cell_below hf0 hBw3; have h13 := cell_below hf1 hBw3; have hS3 := hS.below hBr3; have hX3 := hX.below hBr3; have hd80 := hdrop w3 v hS3 hBw3)
              | (go_at_call 80; with_reducible refine hd80.mono ?_; rintro e w4 ⟨v4, rfl, hS4, hBw4, hK4, hv4⟩; have hX4 := hX3.keptST hS3 hK4 hap; have hap4 := apart_kept hX3 hap hv4))
            exact ⟨⟨i + 1, v4, hi1, rfl, by rw [hsn]; exact hS4, by rw [hsn]; exact hX4, hBw4, hap4⟩, by simp [intOf]; omega⟩
        case pos =>
          obtain ⟨hk1, hk2⟩ := find_lt X C hq
          rw [if_pos hq] at hsn
          rw [decide_eq_true hq, if_pos hq] at hdrop
          clear hkf
          generalize (findP X C).toNat = k at *
          rw [← hk2] at hfind
          clear hq hk2
          obtain ⟨us0, _, huo0, _⟩ := hX.own
          obtain ⟨b, rfl⟩ := Hlp.addr_of huo0 (by omega)
          have hk0 : (0 : Int) ≤ (k : Int) := by omega
          obtain ⟨A', hcutd, hA', hcell'⟩ := hd_cut (b := b) hk1 hcx
          have hcutt := hd_take (b := b) (Nat.le_of_lt hk1) hcx
          have hkw : IntKind.i64.wrap ((k : Int) + 1) = (k : Int) + 1 := (i64_w _).trans (wrap64_in (by omega) (by omega))
          have h63a : 0 + k ≤ maxLen := by unfold maxLen; omega
          have hbya : (0 + k) * 24 ≤ 140737488355328 := by omega
          have h63b : 0 + k + (X.length - (k + 1)) ≤ maxLen := by unfold maxLen; omega
          have hbyb : (0 + k + (X.length - (k + 1))) * 24 ≤ 140737488355328 := by omega
          rcases cl2_cases C with ⟨ha, _⟩ | ⟨ha, hg, _⟩ | ⟨ha, hg, _⟩
          · rw [ha] at hcl34
            go_wp2_with (first
              | (go_at_call 34; with_reducible refine (hcl34 _ hB).mono ?_; rintro e w1 ⟨v1, rfl, hRc, hB1⟩; have hBw1 := hB.trans (hB1.mono hB.size); have h01 := cell_below hf0 hBw1; have h11 := cell_below hf1 hBw1; obtain ⟨Ac, cc, rfl⟩ := Kd.R_slice hRc; have hBr2 := hB1; have hBw2 := hBw1; have hfi := hfind w1 (Kd.C_below hCx hBr2) hBw2)
              | (go_at_call 49; with_reducible refine hfi.mono ?_; rintro e w3 ⟨rfl, hB3⟩; have hBr3 := hBr2.trans (hB3.mono hBr2.size); have hBw3 := hB.trans (hBr3.mono hB.size); have h03 := cell_below hf0 hBw3; have h13 := cell_below hf1 hBw3; have hS3 := hS.below hBr3; have hX3 := hX.below hBr3; have hd80 := hdrop w3 v hS3 hBw3)
              | (go_at_call 80; with_reducible refine hd80.mono ?_; rintro e w4 ⟨v4, rfl, hS4, hBw4, hK4, hv4⟩; have hX4 := hX3.keptST hS3 hK4 hap; have hap4 := apart_kept hX3 hap hv4; obtain ⟨P, eP, hHK, hp⟩ := hX4.parts; have EP := Aside0.mk eP; clear eP; have hsz4 := hBw4.size))
            have hPl : P.length = X.length := by rw [EP.out, List.length_map]
            have huo := hk_own hHK
            rw [List.length_map, hPl] at huo
            have hrc := fun j u hj => Hlp.row_cell huo j u hj
            have husl : ((P.map (·.1)).map hd).length = X.length := by simp [hPl]
            have hone : ∀ u ∈ (P.map (·.1)).map hd, u.oneCell' = true := fun u hu => by obtain ⟨x, _, rfl⟩ := List.mem_map.mp hu; rfl
            have hdd : (P.map (·.1)).map hd = (P.map (·.1)).map hd := rfl
            generalize hus : (P.map (·.1)).map hd = us at hrc husl hone
            have HUS := Aside0.mk hus
            clear hus hdd huo
            have HPL := Aside0.mk hPl
            clear hPl
            have htl : (us.take k).length = k := by rw [List.length_take]; omega
            have hdl : (us.drop (k + 1)).length = X.length - (k + 1) := by rw [List.length_drop]; omega
            have hone1 : ∀ u ∈ us.take k, u.oneCell' = true := fun u hu => hone u (List.mem_of_mem_take hu)
            have hone2 : ∀ u ∈ us.drop (k + 1), u.oneCell' = true := fun u hu => hone u (List.mem_of_mem_drop hu)
            have hBl : Below w4.heap.size w4 (w4.drew.alloc (.cells #[] 22)) := (below_drew1 (Below.refl _ _)).alloc (by simp) _
            have hlit : (w4.drew.alloc (.cells #[] 22)).ownsRow w4.heap.size 22 1 (.slice (some ⟨w4.heap.size, 0, none⟩) 0 0) 0 [] := by
              have := World.ownsRow_lit (base := w4.heap.size) (e := 22) (size := 1) w4.drew #[] 0 (by simp) (by decide) rfl
              simpa using this
            have hsz5 : w4.heap.size ≤ (w4.drew.alloc (.cells #[] 22)).heap.size := hBl.size
            have hn1 : ∀ a, (some ⟨b, 0, none⟩ : Option Addr) = some a → ∀ j u, (us.take k)[j]? = some u → (w4.drew.alloc (.cells #[] 22)).cell? (a.add j) = some u := by
              intro a ha j u hj
              cases ha
              rw [show (⟨b, 0, none⟩ : Addr).add j = ⟨b, j, none⟩ from by unfold Addr.add; split <;> simp_all]
              refine cell_below (hrc j u ?_) hBl
              rw [List.getElem?_take] at hj
              split at hj
              · exact hj
              · cases hj
            go_region_law (first
              | (refine step_append_any (.tmp 66) (.tmp 69) 45 rfl w4.heap.size 22 i0 (.slice none 0 0) 24 Try.underlying45 hi hz0 hz1 hz2 rfl (.slice (some ⟨w4.heap.size, 0, none⟩) 0 0) 0 [] rfl hlit (some ⟨b, 0, none⟩) k cx (us.take k) rfl htl (by intro h; cases h) hn1 hone1 h63a hbya hsz5 rfl ?_; intro v7 w7 hown7 hg7 hat7; have hB7 := hBl.grown hg7 hsz5 (fun q e => (hlit.lt q e).1); have hn2 := hcell' w7 us husl (fun j u hj => cell_below (hrc j u hj) hB7); have hsz7 := hB7.size)
              | (refine step_append_any (.tmp 70) (.tmp 74) 45 rfl w4.heap.size 22 i0 (.slice none 0 0) 24 Try.underlying45 hi hz0 hz1 hz2 rfl v7 (0 + k) ([] ++ us.take k) rfl hown7 A' (X.length - (k + 1)) (cx - (k + 1)) (us.drop (k + 1)) rfl hdl (fun h => absurd h hA') hn2 hone2 h63b hbyb hsz7 rfl ?_; intro v9 w9 hown9 hg9 hat9))
            all_goals
              have hB9 := hB7.grown hg9 hsz7 (fun q e => (hown7.lt q e).1)
              have hXl : RR w9 w.heap.size v9 (dropL X k) := by
                rw [EP.out]
                exact RR.dropped hsz4 (fun p hpm => Hlp.own_below (hp p hpm) hB9) HUS.out HPL.out hk1 hown9
              have hS9 := hS4.below hB9
              have hap9 : v9.ownBlock = none ∨ v9.ownBlock ≠ v4.ownBlock := by
                cases hb9 : v9.ownBlock with
                | none => exact .inl rfl
                | some kk =>
                  right
                  intro e2
                  obtain ⟨us3, hul3, huo3, _⟩ := hS4.2.2.own
                  have h1 := (huo3.lt kk e2.symm).2
                  have h2 := (hown9.lt kk hb9).1
                  omega
              have hBw9 := hBw4.trans (hB9.mono hsz4)
              go_wp2_with fail
              exact ⟨⟨i + 1, v4, hi1, rfl, by rw [hsn]; exact hS9, by rw [hsn]; exact hXl, hBw9, hap9⟩, by simp [intOf]; omega⟩
          · rw [ha] at hcl34
            rw [hg] at hgd37
            go_wp2_with (first
              | (go_at_call 34; with_reducible refine (hcl34 _ hB).mono ?_; rintro e w1 ⟨v1, rfl, hRc, hB1⟩; have hBw1 := hB.trans (hB1.mono hB.size); have h01 := cell_below hf0 hBw1; have h11 := cell_below hf1 hBw1; obtain ⟨Ac, cc, rfl⟩ := Kd.R_slice hRc)
              | (go_at_call 37; with_reducible refine (hgd37 _ hBw1).mono ?_; rintro e w2 ⟨rfl, hD2⟩; have hBr2 := hB1.trans (hD2.below.mono hB1.size); have hBw2 := hB.trans (hBr2.mono hB.size); have h02 := cell_below hf0 hBw2; have h12 := cell_below hf1 hBw2; have hfi := hfind w2 (Kd.C_below hCx hBr2) hBw2)
              | (go_at_call 49; with_reducible refine hfi.mono ?_; rintro e w3 ⟨rfl, hB3⟩; have hBr3 := hBr2.trans (hB3.mono hBr2.size); have hBw3 := hB.trans (hBr3.mono hB.size); have h03 := cell_below hf0 hBw3; have h13 := cell_below hf1 hBw3; have hS3 := hS.below hBr3; have hX3 := hX.below hBr3; have hd80 := hdrop w3 v hS3 hBw3)
              | (go_at_call 80; with_reducible refine hd80.mono ?_; rintro e w4 ⟨v4, rfl, hS4, hBw4, hK4, hv4⟩; have hX4 := hX3.keptST hS3 hK4 hap; have hap4 := apart_kept hX3 hap hv4; obtain ⟨P, eP, hHK, hp⟩ := hX4.parts; have EP := Aside0.mk eP; clear eP; have hsz4 := hBw4.size))
            have hPl : P.length = X.length := by rw [EP.out, List.length_map]
            have huo := hk_own hHK
            rw [List.length_map, hPl] at huo
            have hrc := fun j u hj => Hlp.row_cell huo j u hj
            have husl : ((P.map (·.1)).map hd).length = X.length := by simp [hPl]
            have hone : ∀ u ∈ (P.map (·.1)).map hd, u.oneCell' = true := fun u hu => by obtain ⟨x, _, rfl⟩ := List.mem_map.mp hu; rfl
            have hdd : (P.map (·.1)).map hd = (P.map (·.1)).map hd := rfl
            generalize hus : (P.map (·.1)).map hd = us at hrc husl hone
            have HUS := Aside0.mk hus
            clear hus hdd huo
            have HPL := Aside0.mk hPl
            clear hPl
            have htl : (us.take k).length = k := by rw [List.length_take]; omega
            have hdl : (us.drop (k + 1)).length = X.length - (k + 1) := by rw [List.length_drop]; omega
            have hone1 : ∀ u ∈ us.take k, u.oneCell' = true := fun u hu => hone u (List.mem_of_mem_take hu)
            have hone2 : ∀ u ∈ us.drop (k + 1), u.oneCell' = true := fun u hu => hone u (List.mem_of_mem_drop hu)
            have hBl : Below w4.heap.size w4 (w4.drew.alloc (.cells #[] 22)) := (below_drew1 (Below.refl _ _)).alloc (by simp) _
            have hlit : (w4.drew.alloc (.cells #[] 22)).ownsRow w4.heap.size 22 1 (.slice (some ⟨w4.heap.size, 0, none⟩) 0 0) 0 [] := by
              have := World.ownsRow_lit (base := w4.heap.size) (e := 22) (size := 1) w4.drew #[] 0 (by simp) (by decide) rfl
              simpa using this
            have hsz5 : w4.heap.size ≤ (w4.drew.alloc (.cells #[] 22)).heap.size := hBl.size
            have hn1 : ∀ a, (some ⟨b, 0, none⟩ : Option Addr) = some a → ∀ j u, (us.take k)[j]? = some u → (w4.drew.alloc (.cells #[] 22)).cell? (a.add j) = some u := by
              intro a ha j u hj
              cases ha
              rw [show (⟨b, 0, none⟩ : Addr).add j = ⟨b, j, none⟩ from by unfold Addr.add; split <;> simp_all]
              refine cell_below (hrc j u ?_) hBl
              rw [List.getElem?_take] at hj
              split at hj
              · exact hj
              · cases hj
            go_region_law (first
              | (refine step_append_any (.tmp 66) (.tmp 69) 45 rfl w4.heap.size 22 i0 (.slice none 0 0) 24 Try.underlying45 hi hz0 hz1 hz2 rfl (.slice (some ⟨w4.heap.size, 0, none⟩) 0 0) 0 [] rfl hlit (some ⟨b, 0, none⟩) k cx (us.take k) rfl htl (by intro h; cases h) hn1 hone1 h63a hbya hsz5 rfl ?_; intro v7 w7 hown7 hg7 hat7; have hB7 := hBl.grown hg7 hsz5 (fun q e => (hlit.lt q e).1); have hn2 := hcell' w7 us husl (fun j u hj => cell_below (hrc j u hj) hB7); have hsz7 := hB7.size)
              | (refine step_append_any (.tmp 70) (.tmp 74) 45 rfl w4.heap.size 22 i0 (.slice none 0 0) 24 Try.underlying45 hi hz0 hz1 hz2 rfl v7 (0 + k) ([] ++ us.take k) rfl hown7 A' (X.length - (k + 1)) (cx - (k + 1)) (us.drop (k + 1)) rfl hdl (fun h => absurd h hA') hn2 hone2 h63b hbyb hsz7 rfl ?_; intro v9 w9 hown9 hg9 hat9))
            all_goals
              have hB9 := hB7.grown hg9 hsz7 (fun q e => (hown7.lt q e).1)
              have hXl : RR w9 w.heap.size v9 (dropL X k) := by
                rw [EP.out]
                exact RR.dropped hsz4 (fun p hpm => Hlp.own_below (hp p hpm) hB9) HUS.out HPL.out hk1 hown9
              have hS9 := hS4.below hB9
              have hap9 : v9.ownBlock = none ∨ v9.ownBlock ≠ v4.ownBlock := by
                cases hb9 : v9.ownBlock with
                | none => exact .inl rfl
                | some kk =>
                  right
                  intro e2
                  obtain ⟨us3, hul3, huo3, _⟩ := hS4.2.2.own
                  have h1 := (huo3.lt kk e2.symm).2
                  have h2 := (hown9.lt kk hb9).1
                  omega
              have hBw9 := hBw4.trans (hB9.mono hsz4)
              go_wp2_with fail
              exact ⟨⟨i + 1, v4, hi1, rfl, by rw [hsn]; exact hS9, by rw [hsn]; exact hXl, hBw9, hap9⟩, by simp [intOf]; omega⟩
          · rw [ha] at hcl34
            rw [hg] at hgd37
            go_wp2_with (first
              | (go_at_call 34; with_reducible refine (hcl34 _ hB).mono ?_; rintro e w1 ⟨v1, rfl, hRc, hB1⟩; have hBw1 := hB.trans (hB1.mono hB.size); have h01 := cell_below hf0 hBw1; have h11 := cell_below hf1 hBw1; obtain ⟨Ac, cc, rfl⟩ := Kd.R_slice hRc)
              | (go_at_call 37; with_reducible refine (hgd37 _ hBw1).mono ?_; rintro e w2 ⟨rfl, hD2⟩; have hBr2 := hB1.trans (hD2.below.mono hB1.size); have hBw2 := hB.trans (hBr2.mono hB.size); have h02 := cell_below hf0 hBw2; have h12 := cell_below hf1 hBw2; have hfi := hfind w2 (Kd.C_below hCx hBr2) hBw2)
              | (go_at_call 49; with_reducible refine hfi.mono ?_; rintro e w3 ⟨rfl, hB3⟩; have hBr3 := hBr2.trans (hB3.mono hBr2.size); have hBw3 := hB.trans (hBr3.mono hB.size); have h03 := cell_below hf0 hBw3; have h13 := cell_below hf1 hBw3; have hS3 := hS.below hBr3; have hX3 := hX.below hBr3; have hd80 := hdrop w3 v hS3 hBw3)
              | (go_at_call 80; with_reducible refine hd80.mono ?_; rintro e w4 ⟨v4, rfl, hS4, hBw4, hK4, hv4⟩; have hX4 := hX3.keptST hS3 hK4 hap; have hap4 := apart_kept hX3 hap hv4; obtain ⟨P, eP, hHK, hp⟩ := hX4.parts; have EP := Aside0.mk eP; clear eP; have hsz4 := hBw4.size))
            have hPl : P.length = X.length := by rw [EP.out, List.length_map]
            have huo := hk_own hHK
            rw [List.length_map, hPl] at huo
            have hrc := fun j u hj => Hlp.row_cell huo j u hj
            have husl : ((P.map (·.1)).map hd).length = X.length := by simp [hPl]
            have hone : ∀ u ∈ (P.map (·.1)).map hd, u.oneCell' = true := fun u hu => by obtain ⟨x, _, rfl⟩ := List.mem_map.mp hu; rfl
            have hdd : (P.map (·.1)).map hd = (P.map (·.1)).map hd := rfl
            generalize hus : (P.map (·.1)).map hd = us at hrc husl hone
            have HUS := Aside0.mk hus
            clear hus hdd huo
            have HPL := Aside0.mk hPl
            clear hPl
            have htl : (us.take k).length = k := by rw [List.length_take]; omega
            have hdl : (us.drop (k + 1)).length = X.length - (k + 1) := by rw [List.length_drop]; omega
            have hone1 : ∀ u ∈ us.take k, u.oneCell' = true := fun u hu => hone u (List.mem_of_mem_take hu)
            have hone2 : ∀ u ∈ us.drop (k + 1), u.oneCell' = true := fun u hu => hone u (List.mem_of_mem_drop hu)
            have hBl : Below w4.heap.size w4 (w4.drew.alloc (.cells #[] 22)) := (below_drew1 (Below.refl _ _)).alloc (by simp) _
            have hlit : (w4.drew.alloc (.cells #[] 22)).ownsRow w4.heap.size 22 1 (.slice (some ⟨w4.heap.size, 0, none⟩) 0 0) 0 [] := by
              have := World.ownsRow_lit (base := w4.heap.size) (e := 22) (size := 1) w4.drew #[] 0 (by simp) (by decide) rfl
              simpa using this
            have hsz5 : w4.heap.size ≤ (w4.drew.alloc (.cells #[] 22)).heap.size := hBl.size
            have hn1 : ∀ a, (some ⟨b, 0, none⟩ : Option Addr) = some a → ∀ j u, (us.take k)[j]? = some u → (w4.drew.alloc (.cells #[] 22)).cell? (a.add j) = some u := by
              intro a ha j u hj
              cases ha
              rw [show (⟨b, 0, none⟩ : Addr).add j = ⟨b, j, none⟩ from by unfold Addr.add; split <;> simp_all]
              refine cell_below (hrc j u ?_) hBl
              rw [List.getElem?_take] at hj
              split at hj
              · exact hj
              · cases hj
            go_region_law (first
              | (refine step_append_any (.tmp 66) (.tmp 69) 45 rfl w4.heap.size 22 i0 (.slice none 0 0) 24 Try.underlying45 hi hz0 hz1 hz2 rfl (.slice (some ⟨w4.heap.size, 0, none⟩) 0 0) 0 [] rfl hlit (some ⟨b, 0, none⟩) k cx (us.take k) rfl htl (by intro h; cases h) hn1 hone1 h63a hbya hsz5 rfl ?_; intro v7 w7 hown7 hg7 hat7; have hB7 := hBl.grown hg7 hsz5 (fun q e => (hlit.lt q e).1); have hn2 := hcell' w7 us husl (fun j u hj => cell_below (hrc j u hj) hB7); have hsz7 := hB7.size)
              | (refine step_append_any (.tmp 70) (.tmp 74) 45 rfl w4.heap.size 22 i0 (.slice none 0 0) 24 Try.underlying45 hi hz0 hz1 hz2 rfl v7 (0 + k) ([] ++ us.take k) rfl hown7 A' (X.length - (k + 1)) (cx - (k + 1)) (us.drop (k + 1)) rfl hdl (fun h => absurd h hA') hn2 hone2 h63b hbyb hsz7 rfl ?_; intro v9 w9 hown9 hg9 hat9))
            all_goals
              have hB9 := hB7.grown hg9 hsz7 (fun q e => (hown7.lt q e).1)
              have hXl : RR w9 w.heap.size v9 (dropL X k) := by
                rw [EP.out]
                exact RR.dropped hsz4 (fun p hpm => Hlp.own_below (hp p hpm) hB9) HUS.out HPL.out hk1 hown9
              have hS9 := hS4.below hB9
              have hap9 : v9.ownBlock = none ∨ v9.ownBlock ≠ v4.ownBlock := by
                cases hb9 : v9.ownBlock with
                | none => exact .inl rfl
                | some kk =>
                  right
                  intro e2
                  obtain ⟨us3, hul3, huo3, _⟩ := hS4.2.2.own
                  have h1 := (huo3.lt kk e2.symm).2
                  have h2 := (hown9.lt kk hb9).1
                  omega
              have hBw9 := hBw4.trans (hB9.mono hsz4)
              go_wp2_with fail
              exact ⟨⟨i + 1, v4, hi1, rfl, by rw [hsn]; exact hS9, by rw [hsn]; exact hXl, hBw9, hap9⟩, by simp [intOf]; omega⟩
      case neg =>
        have hkdb : (kd == 2) = false := beq_eq_false_iff_ne.mpr hkd
        have hsn : playX (l.take (i + 1)) = if (cl2 C).2 = true then X ++ [(cl2 C).1] else X := by rw [HSN.out, if_neg hkd]
        clear HSN
        have hadd := fun (W W0 : World) (v : Value) (hS : ST W w.heap.size w.heap.size v X) (hB : Below w.heap.size w W) => add_calls (w0 := w) hS (by omega) hB hB.size (Kd.C_below hR1 hB) hc1 (lits := C) (by omega)
        rcases cl2_cases C with ⟨ha, h2⟩ | ⟨ha, hg, h2, h1⟩ | ⟨ha, hg, h2⟩
        · rw [if_neg (by rw [h2]; decide)] at hsn
          rw [h2, if_neg (by decide)] at hadd
          rw [ha] at hcl34
          go_wp2_with (first
            | (go_at_call 34; with_reducible refine (hcl34 _ hB).mono ?_; rintro e w1 ⟨v1, rfl, hRc, hB1⟩; have hBw1 := hB.trans (hB1.mono hB.size); have h01 := cell_below hf0 hBw1; have h11 := cell_below hf1 hBw1; obtain ⟨Ac, cc, rfl⟩ := Kd.R_slice hRc; have hS2 := hS.below hB1; have hX2 := hX.below hB1; have ha46 := hadd w1 w v hS2 hBw1; have hw2 := hBw1.size)
            | (go_at_call 46; with_reducible refine ha46.mono ?_; rintro e w3 ⟨v3, rfl, hS3, hBw3, hK3, hv3⟩; have hX3 := hX2.keptST hS2 hK3 hap; have hap3 := apart_kept hX2 hap hv3))
          exact ⟨⟨i + 1, v3, hi1, rfl, by rw [hsn]; exact hS3, by rw [hsn]; exact hX3, hBw3, hap3⟩, by simp [intOf]; omega⟩
        · rw [if_pos h2, h1] at hsn
          rw [h2, if_pos rfl, h1] at hadd
          rw [ha] at hcl34
          rw [hg] at hgd37
          have h63 : X.length + 1 ≤ maxLen := by unfold maxLen; omega
          have hby : (X.length + 1) * 24 ≤ 140737488355328 := by omega
          go_wp2_with (first
            | (go_at_call 34; with_reducible refine (hcl34 _ hB).mono ?_; rintro e w1 ⟨v1, rfl, hRc, hB1⟩; have hBw1 := hB.trans (hB1.mono hB.size); have h01 := cell_below hf0 hBw1; have h11 := cell_below hf1 hBw1; obtain ⟨Ac, cc, rfl⟩ := Kd.R_slice hRc)
            | (go_at_call 37; with_reducible refine (hgd37 _ hBw1).mono ?_; rintro e w2 ⟨rfl, hD2⟩; have hBr2 := hB1.trans (hD2.below.mono hB1.size); have hBw2 := hB.trans (hBr2.mono hB.size); have h02 := cell_below hf0 hBw2; have h12 := cell_below hf1 hBw2; have hS2 := hS.below hBr2; have hX2 := hX.below hBr2; have ha46 := hadd w2 w v hS2 hBw2; have hrc2 := Hlp.own_below (own_of_R hRc) hD2.below)
            | (go_at_call 46; with_reducible refine ha46.mono ?_; rintro e w3 ⟨v3, rfl, hS3, hBw3, hK3, hv3⟩; have hX3 := hX2.keptST hS2 hK3 hap; have hap3 := apart_kept hX2 hap hv3; have hrc3 := row3_kept hrc2 hS2 hK3; have hXa := hX3.below ((Below.refl _ _).alloc (Nat.le_refl _) (.cells #[.slice Ac (cleanP C).1.length cc] 22)); obtain ⟨us, hus, hput⟩ := hXa.open_; have hsz3 := hBw3.size)
            | (at_builtin; refine wpList_append_own_at _ rfl _ _ 45 rfl w.heap.size 22 i0 (.slice none 0 0) 1 24 Try.underlying45 hi hz0 hz1 hz2 rfl (by decide) _ _ _ rfl hus ⟨w3.heap.size, 0, none⟩ 1 1 [.slice Ac (cleanP C).1.length cc] rfl rfl (cell_one_new _ _ _) (by simp [Value.oneCell']) h63 hby (by simp; omega) ?_; intro v7 w7 hown7 hg7 hnil7 hloc7))
          have hX7 := hput w7 v7 Ac cc (cleanP C).1 ((Hlp.own_base hrc3 hB.size).alloc _) hg7 hown7
          have hSa := hS3.below ((Below.refl _ _).alloc (Nat.le_refl _) (.cells #[.slice Ac (cleanP C).1.length cc] 22))
          have hS7 := hSa.grownX hXa hap3 hg7
          have hap7 := apart_new hSa hap3 hloc7
          have hB7 := (hBw3.alloc hsz3 (.cells #[.slice Ac (cleanP C).1.length cc] 22)).grown hg7 (by simp; omega) (fun q e => (hus.lt q e).1)
          exact ⟨⟨i + 1, v3, hi1, rfl, by rw [hsn]; exact hS7, by rw [hsn]; exact hX7, hB7, hap7⟩, by simp [intOf]; omega⟩
        · rw [if_neg (by rw [h2]; decide)] at hsn
          rw [h2, if_neg (by decide)] at hadd
          rw [ha] at hcl34
          rw [hg] at hgd37
          go_wp2_with (first
            | (go_at_call 34; with_reducible refine (hcl34 _ hB).mono ?_; rintro e w1 ⟨v1, rfl, hRc, hB1⟩; have hBw1 := hB.trans (hB1.mono hB.size); have h01 := cell_below hf0 hBw1; have h11 := cell_below hf1 hBw1; obtain ⟨Ac, cc, rfl⟩ := Kd.R_slice hRc)
            | (go_at_call 37; with_reducible refine (hgd37 _ hBw1).mono ?_; rintro e w2 ⟨rfl, hD2⟩; have hBr2 := hB1.trans (hD2.below.mono hB1.size); have hBw2 := hB.trans (hBr2.mono hB.size); have h02 := cell_below hf0 hBw2; have h12 := cell_below hf1 hBw2; have hS2 := hS.below hBr2; have hX2 := hX.below hBr2; have ha46 := hadd w2 w v hS2 hBw2; have hrc2 := Hlp.own_below (own_of_R hRc) hD2.below)
            | (go_at_call 46; with_reducible refine ha46.mono ?_; rintro e w3 ⟨v3, rfl, hS3, hBw3, hK3, hv3⟩; have hX3 := hX2.keptST hS2 hK3 hap; have hap3 := apart_kept hX2 hap hv3))
          exact ⟨⟨i + 1, v3, hi1, rfl, by rw [hsn]; exact hS3, by rw [hsn]; exact hX3, hBw3, hap3⟩, by simp [intOf]; omega⟩
end Go.Proofs.Ytohgjbkiemnfnaa.Rup
