/- Certificates: what is written is read back; a part of it is not; nor is more of it. Plain Lean. -/
import Derived.Test.YtcebjhbphcoboaaCd
import Derived.Test.YtcebjhbphcoboaaCj
import Derived.Lib.VarintBits
namespace Go.Proofs.Ytcebjhbphcoboaa.Crt
open Go Go.RowKit Go.Proofs.Ytcebjhbphcoboaa.C Go.Proofs.Ytcebjhbphcoboaa.Hlp Go.Proofs.YtcebjhbphcoboaaW.PrintWords Go.Proofs.YtcebjhbphcoboaaW.PrintLast Go.Proofs.YtcebjhbphcoboaaW.PrintMore Go.Proofs.Ytcebjhbphcoboaa.Aid Go.Proofs.Ytcebjhbphcoboaa.Clause12 Go.Proofs.Ytcebjhbphcoboaa.Clean12
set_option linter.unusedVariables false
set_option linter.unusedSimpArgs false
/-! A number's bytes. -/
theorem shl_val (n : Nat) (hn : n ≤ 4) (c : Int) (h0 : 0 ≤ c) (h1 : c < 256) : shl .u64 (IntKind.u64.wrap (Go.bits .and .u8 c 127)) (7 * (n : Int)) = (c % 128) * 128 ^ n := by
  rw [u8_and127 c h0 h1, wrapu64_in (by omega) (by omega)]
  unfold shl
  match n, hn with
  | 0, _ => simp only [show min (7 * ((0 : Nat) : Int)).toNat IntKind.u64.bits = 0 from rfl]; rw [wrapu64]; omega
  | 1, _ => simp only [show min (7 * ((1 : Nat) : Int)).toNat IntKind.u64.bits = 7 from rfl]; rw [wrapu64]; omega
  | 2, _ => simp only [show min (7 * ((2 : Nat) : Int)).toNat IntKind.u64.bits = 14 from rfl]; rw [wrapu64]; omega
  | 3, _ => simp only [show min (7 * ((3 : Nat) : Int)).toNat IntKind.u64.bits = 21 from rfl]; rw [wrapu64]; omega
  | 4, _ => simp only [show min (7 * ((4 : Nat) : Int)).toNat IntKind.u64.bits = 28 from rfl]; rw [wrapu64]; omega
theorem numX_val (n : Nat) (hn : n ≤ 4) (x c : Int) (hx0 : 0 ≤ x) (hx1 : x < 128 ^ n) (h0 : 0 ≤ c) (h1 : c < 256) : numX x c n = x + (c % 128) * 128 ^ n := by
  unfold numX
  rw [shl_val n hn c h0 h1]
  match n, hn with
  | 0, _ => exact u64_orv0 _ _ hx0 (by omega) (by omega) (by omega) (by omega)
  | 1, _ => exact u64_orv7 _ _ hx0 (by omega) (by omega) (by omega) (by omega)
  | 2, _ => exact u64_orv14 _ _ hx0 (by omega) (by omega) (by omega) (by omega)
  | 3, _ => exact u64_orv21 _ _ hx0 (by omega) (by omega) (by omega) (by omega)
  | 4, _ => exact u64_orv28 _ _ hx0 (by omega) (by omega) (by omega) (by omega)
theorem putN_acc : ∀ m (v : Int) (acc : List Int), putN m v acc = acc ++ putN m v [] := by
  intro m
  induction m with
  | zero => intro v acc; simp [putN]
  | succ m ih =>
    intro v acc
    rw [putN, putN]
    split
    · rw [ih, ih (v / 128) ([] ++ [v % 128 + 128])]; simp
    · simp
theorem getD_drop (b : List Int) (i : Nat) (c : Int) (l : List Int) (h : b.drop i = c :: l) : i < b.length ∧ b.getD i 0 = c ∧ b.drop (i + 1) = l := by
  have hi : i < b.length := by
    have := congrArg List.length h
    rw [List.length_drop, List.length_cons] at this; omega
  rw [List.drop_eq_getElem_cons hi] at h
  obtain ⟨h1, h2⟩ := List.cons.inj h
  exact ⟨hi, by rw [List.getD_eq_getElem?_getD, List.getElem?_eq_getElem hi]; exact h1, h2⟩
theorem num_put (b : List Int) (a : Nat) (post : List Int) : ∀ m n (x v : Int), n + m = 5 → 1 ≤ m → 0 ≤ v → v < 128 ^ m → 0 ≤ x → x < 128 ^ n → (1 ≤ n → 1 ≤ v) → x + v * 128 ^ n < 4294967296 → b.drop (a + n) = putN m v [] ++ post →
    numN b a m n x = (x + v * 128 ^ n, n + (putN m v []).length, 0) := by
  intro m
  induction m with
  | zero => intro n x v h1 h2; omega
  | succ m ih =>
    intro n x v hnm hm hv0 hv1 hx0 hx1 hnv hlt hb
    have hp : (128 : Int) ^ (n + 1) = 128 ^ n * 128 := Int.pow_succ ..
    have hq : (128 : Int) ^ (m + 1) = 128 ^ m * 128 := Int.pow_succ ..
    have hpos : (0 : Int) < 128 ^ n := Int.pow_pos (by decide)
    rw [putN] at hb ⊢
    by_cases hv : v > 127
    · rw [if_pos hv] at hb ⊢
      have hm1 : 1 ≤ m := by
        rcases Nat.eq_zero_or_pos m with e | e
        · subst e; simp at hv1; omega
        · exact e
      rw [putN_acc] at hb ⊢
      rw [List.nil_append, List.append_assoc] at hb
      obtain ⟨g1, g2, g3⟩ := getD_drop b (a + n) _ _ hb
      rw [numN, if_neg (by omega), g2, if_pos (by omega), numX_val n (by omega) x _ hx0 hx1 (by omega) (by omega)]
      have e1 : (v % 128 + 128) % 128 = v % 128 := by omega
      rw [e1]
      have hr0 : 0 ≤ v % 128 := by omega
      have hr1 : v % 128 ≤ 127 := by omega
      have hm0 : 0 ≤ v % 128 * 128 ^ n := Int.mul_nonneg hr0 (by omega)
      have hm2 : v % 128 * 128 ^ n ≤ 127 * 128 ^ n := Int.mul_le_mul_of_nonneg_right hr1 (by omega)
      have hv2 : v % 128 * 128 ^ n + v / 128 * (128 ^ n * 128) = v * 128 ^ n := by
        have e : v = v % 128 + v / 128 * 128 := by omega
        conv => rhs; rw [e, Int.add_mul, Int.mul_assoc (v / 128), Int.mul_comm 128 (128 ^ n)]
      have hs : x + v % 128 * 128 ^ n + v / 128 * 128 ^ (n + 1) = x + v * 128 ^ n := by rw [hp, ← hv2]; omega
      rw [ih (n + 1) _ (v / 128) (by omega) hm1 (by omega) (by omega) (by omega) (by rw [hp]; omega) (fun _ => by omega) (by rw [hs]; exact hlt) (by rw [show a + (n + 1) = a + n + 1 by omega]; exact g3), hs]
      simp; omega
    · rw [if_neg hv] at hb ⊢
      obtain ⟨g1, g2, g3⟩ := getD_drop b (a + n) _ _ hb
      rw [numN, if_neg (by omega), g2, if_neg (by omega), if_neg (by rintro ⟨h1, h2⟩; have := hnv h2; omega), numX_val n (by omega) x v hx0 hx1 hv0 (by omega), show v % 128 = v by omega, if_neg (by omega)]
      have : 0 ≤ v * 128 ^ n := Int.mul_nonneg hv0 (by omega)
      simp only [List.nil_append, List.length_singleton, Prod.mk.injEq, and_true, true_and]
      omega
theorem nextP_put (b : List Int) (most : Int) (s : RS) (v : Int) (post : List Int) (he : s.e = 0) (h0 : 0 ≤ v) (h1 : v ≤ most) (hm : most ≤ 4294967295) (hb : b.drop s.a = putP v ++ post) :
    nextP b most s = (v, ⟨s.a + (putP v).length, s.f, 0⟩) ∧ b.drop (s.a + (putP v).length) = post := by
  have hn := num_put b s.a post 5 0 0 v rfl (by omega) h0 (pow5 (by omega)) (by omega) (by omega) (by omega) (by simp; omega) hb
  have hn2 : numP b s.a = (v, (putP v).length, 0) := by
    unfold numP
    rw [hn, Int.pow_zero, Int.mul_one, Int.zero_add, Nat.zero_add]; rfl
  refine ⟨?_, ?_⟩
  · unfold nextP
    rw [if_neg (by omega), hn2, if_neg (by simp), if_neg (by simpa using h1)]
  · rw [← List.drop_drop, hb, List.drop_left]
/-! The places. -/
theorem coreN_put (b : List Int) (rest : List Int) : ∀ (ps : List Int) (out : List Int) (s : RS) (g last : Int), s.e = 0 → coreG g ps = true → (out = [] ∧ g = -1 ∧ last = 0 ∨ out ≠ [] ∧ g = last ∧ out.getD (out.length - 1) 0 = last ∧ 0 ≤ last) → b.drop s.a = putsP (coreNs last ps) ++ rest →
    ∃ a', coreN b ps.length out s = (out ++ ps, ⟨a', s.f, 0⟩) ∧ b.drop a' = rest := by
  intro ps
  induction ps with
  | nil =>
    intro out s g last he hg hc hb
    refine ⟨s.a, ?_, hb⟩
    rw [List.length_nil, coreN, List.append_nil, ← he]
  | cons p ps ih =>
    intro out s g last he hg hc hb
    rw [coreG] at hg
    by_cases h1 : p ≤ g
    · rw [if_pos h1] at hg; cases hg
    rw [if_neg h1] at hg
    by_cases h2 : p > 1048575
    · rw [if_pos h2] at hg; cases hg
    rw [if_neg h2] at hg
    rw [coreNs, puts_cons, List.append_assoc] at hb
    have hl : last ≤ p ∧ 0 ≤ last ∧ (out ≠ [] → last < p) := by
      rcases hc with ⟨h, h', h''⟩ | ⟨h, h', h''⟩
      · exact ⟨by omega, by omega, fun hh => absurd h hh⟩
      · exact ⟨by omega, by omega, fun _ => by omega⟩
    obtain ⟨hn, hd⟩ := nextP_put b 1048575 s (p - last) _ he (by omega) (by omega) (by omega) hb
    have hlp : lastP out (p - last) = p := by
      unfold lastP
      rcases hc with ⟨h, h', h''⟩ | ⟨h, h', h'', _⟩
      · rw [if_pos (by simp [h])]; omega
      · rw [if_neg (by simpa using h), h'']; omega
    have hcs : corS b out s = ⟨s.a + (putP (p - last)).length, s.f, 0⟩ := by
      unfold corS
      rw [hn]
      unfold corT
      rw [hlp, if_neg (by omega)]
      unfold corA
      rw [if_neg]
      rintro ⟨h, h'⟩
      have := hl.2.2 (by rintro rfl; exact h rfl)
      omega
    obtain ⟨a', ha, hd'⟩ := ih (out ++ [p]) ⟨s.a + (putP (p - last)).length, s.f, 0⟩ p p rfl hg (.inr ⟨by simp, rfl, by simp, by omega⟩) hd
    refine ⟨a', ?_, hd'⟩
    rw [List.length_cons, coreN, if_neg (by omega), hcs, hn, hlp, ha, List.append_assoc]
    rfl
theorem coreP_put (b rest core : List Int) (s : RS) (he : s.e = 0) (hg : coreG (-1) core = true) (hl : core.length ≤ 60) (hb : b.drop s.a = putP core.length ++ (putsP (coreNs 0 core) ++ rest)) :
    ∃ a', coreP b s = (core, ⟨a', s.f, 0⟩) ∧ b.drop a' = rest := by
  obtain ⟨hn, hd⟩ := nextP_put b 65536 s core.length _ he (by omega) (by omega) (by omega) hb
  obtain ⟨a', ha, hd'⟩ := coreN_put b rest core [] ⟨s.a + (putP core.length).length, s.f, 0⟩ (-1) 0 rfl hg (.inl ⟨rfl, rfl, rfl⟩) hd
  refine ⟨a', ?_, hd'⟩
  unfold coreP
  rw [hn, Int.toNat_natCast, ha, List.nil_append]
/-! A step. -/
theorem litV_num (x : Int) : Int.tdiv (numbL x) 2 = (if x < 0 then -x else x) ∧ litV (numbL x) = x := by
  unfold litV numbL
  split
  · have e1 : Int.tmod (-2 * x + 1) 2 = 1 := by rw [Int.tmod_eq_emod_of_nonneg (by omega)]; omega
    have e2 : Int.tdiv (-2 * x + 1) 2 = -x := by rw [Int.tdiv_eq_ediv_of_nonneg (by omega)]; omega
    rw [e1, e2, if_pos rfl]; omega
  · have e1 : Int.tmod (2 * x) 2 = 0 := by rw [Int.tmod_eq_emod_of_nonneg (by omega)]; omega
    have e2 : Int.tdiv (2 * x) 2 = x := by rw [Int.tdiv_eq_ediv_of_nonneg (by omega)]; omega
    rw [e1, e2, if_neg (by decide)]; omega
theorem stpN_put (b : List Int) (rest : List Int) : ∀ (C : List Int) (out : List Int) (s : RS) (last : Int), s.e = 0 → (∀ x ∈ C, av x > 0) → Rise C → (∀ x ∈ C, last < av x) → 0 ≤ last → b.drop s.a = putsP (C.map numbL) ++ rest →
    ∃ a', stpN b C.length out last s = (out ++ C, ⟨a', s.f, 0⟩) ∧ b.drop a' = rest := by
  intro C
  induction C with
  | nil =>
    intro out s last he hp hr hl h0 hb
    refine ⟨s.a, ?_, hb⟩
    rw [List.length_nil, stpN, List.append_nil, ← he]
  | cons x C ih =>
    intro out s last he hp hr hl h0 hb
    have hx := hp x (List.mem_cons_self ..)
    have hxr := abs_range hx
    have hxl := hl x (List.mem_cons_self ..)
    rw [av_pos hx] at hxl
    rw [List.map_cons, puts_cons, List.append_assoc] at hb
    obtain ⟨hv1, hv2⟩ := litV_num x
    have hnb : 0 ≤ numbL x ∧ numbL x ≤ 33554433 := by unfold numbL; split <;> omega
    obtain ⟨hn, hd⟩ := nextP_put b 33554433 s (numbL x) _ he hnb.1 hnb.2 (by omega) hb
    replace hr := List.pairwise_cons.mp hr
    obtain ⟨a', ha, hd'⟩ := ih (out ++ [x]) ⟨s.a + (putP (numbL x)).length, s.f, 0⟩ (if x < 0 then -x else x) rfl (fun y hy => hp y (List.mem_cons_of_mem _ hy)) hr.2 (fun y hy => by rw [← av_pos hx]; exact hr.1 y hy) (by split <;> omega) hd
    refine ⟨a', ?_, hd'⟩
    rw [List.length_cons, stpN, if_neg (by omega), hn]
    unfold litS
    dsimp only
    rw [hv1, hv2, if_neg (show ¬ (if x < 0 then -x else x) ≤ last by omega), ha, List.append_assoc]
    rfl
theorem clean_facts (s : S95) (h : stepG s = true) : (0 ≤ s.f0 ∧ s.f0 ≤ 2) ∧ (∀ x ∈ s.f1, av x > 0) ∧ Rise s.f1 := by
  unfold stepG at h
  simp only [Bool.and_eq_true, decide_eq_true_eq, Bool.not_eq_true'] at h
  obtain ⟨⟨⟨h1, h2⟩, h3⟩, h4⟩ := h
  have hlone : Lone s.f1 := fun x hx h0 hn => by rw [clean_always s.f1 x h0 hx hn] at h3; cases h3
  obtain ⟨hc, hr⟩ := clean_lone s.f1 hlone
  rw [hc] at h4
  dsimp only at h4
  refine ⟨⟨h1, h2⟩, fun x hx => ?_, by rw [h4] at hr; exact hr⟩
  rw [← h4] at hx
  exact ((mem_clean s.f1 x).mp hx).2
theorem stepP_put (b rest : List Int) (x : S95) (s : RS) (he : s.e = 0) (hg : stepG x = true) (hl : x.f1.length ≤ 30) (hb : b.drop s.a = putsP (stepNs x) ++ rest) :
    ∃ a', stepP b s = (x.f0, x.f1, ⟨a', s.f, 0⟩) ∧ b.drop a' = rest := by
  obtain ⟨⟨hk0, hk1⟩, hp, hr⟩ := clean_facts x hg
  unfold stepNs at hb
  rw [puts_cons, puts_cons, List.append_assoc, List.append_assoc] at hb
  obtain ⟨hn, hd⟩ := nextP_put b 4294967295 s x.f0 _ he hk0 (by omega) (by omega) hb
  have hB : stpB b s = ⟨s.a + (putP x.f0).length, s.f, 0⟩ := by unfold stpB knd; rw [hn, if_neg (by dsimp only; omega)]
  obtain ⟨hn2, hd2⟩ := nextP_put b 4096 ⟨s.a + (putP x.f0).length, s.f, 0⟩ x.f1.length _ rfl (by omega) (by omega) (by omega) hd
  obtain ⟨a', ha, hd'⟩ := stpN_put b rest x.f1 [] ⟨s.a + (putP x.f0).length + (putP (x.f1.length : Int)).length, s.f, 0⟩ 0 rfl hp hr (fun y hy => hp y hy) (by omega) hd2
  refine ⟨a', ?_, hd'⟩
  unfold stepP
  rw [hn, hB, hn2, Int.toNat_natCast, ha, List.nil_append]
theorem stepsN_put (b : List Int) (rest : List Int) : ∀ (xs : List S95) (out : List S95) (s : RS), s.e = 0 → xs.all stepG = true → (∀ x ∈ xs, x.f1.length ≤ 30) → b.drop s.a = putsP (xs.flatMap stepNs) ++ rest →
    ∃ a', stepsN b xs.length out s = (out ++ xs, ⟨a', s.f, 0⟩) ∧ b.drop a' = rest := by
  intro xs
  induction xs with
  | nil =>
    intro out s he hg hl hb
    refine ⟨s.a, ?_, hb⟩
    rw [List.length_nil, stepsN, List.append_nil, ← he]
  | cons x xs ih =>
    intro out s he hg hl hb
    rw [List.all_cons, Bool.and_eq_true] at hg
    rw [List.flatMap_cons, puts_app, List.append_assoc] at hb
    obtain ⟨a1, h1, hd1⟩ := stepP_put b _ x s he hg.1 (hl x (List.mem_cons_self ..)) hb
    obtain ⟨a', ha, hd'⟩ := ih (out ++ [x]) ⟨a1, s.f, 0⟩ rfl hg.2 (fun y hy => hl y (List.mem_cons_of_mem _ hy)) hd1
    refine ⟨a', ?_, hd'⟩
    rw [List.length_cons, stepsN, if_neg (by omega), h1]
    dsimp only
    rw [ha, List.append_assoc]
    rfl
/-! The whole. -/
def preP (b : List Int) : List Int × List S95 × RS :=
  ((coreP b ⟨2, 0, 0⟩).1, stepsN b (nextP b 1048576 (coreP b ⟨2, 0, 0⟩).2).1.toNat [] (nextP b 1048576 (coreP b ⟨2, 0, 0⟩).2).2)
theorem bodyP_pre (b : List Int) : bodyP b = ((preP b).1, (preP b).2.1, endP b (preP b).2.2) := rfl
section
variable (core : List Int) (steps : List S95) (hg : goodG core steps = true) (hc : core.length ≤ 60) (hs : steps.length ≤ 30) (hC : ∀ s ∈ steps, s.f1.length ≤ 30)
theorem bytes_two (post : List Int) : 2 ≤ (bytesP core steps ++ post).length := by unfold bytesP; simp
include hg hc hs hC
theorem pre_put (post : List Int) : ∃ a', preP (bytesP core steps ++ post) = (core, steps, ⟨a', 0, 0⟩) ∧ (bytesP core steps ++ post).drop a' = post := by
  unfold goodG at hg
  rw [Bool.and_eq_true] at hg
  have hb : (bytesP core steps ++ post).drop 2 = putP core.length ++ (putsP (coreNs 0 core) ++ (putP steps.length ++ (putsP (steps.flatMap stepNs) ++ post))) := by
    unfold bytesP certNs
    simp only [puts_cons, puts_app, List.append_assoc, List.cons_append, List.nil_append, List.drop_succ_cons, List.drop_zero]
  obtain ⟨a1, h1, hd1⟩ := coreP_put _ _ core ⟨2, 0, 0⟩ rfl hg.1 hc hb
  obtain ⟨hn, hd2⟩ := nextP_put _ 1048576 ⟨a1, 0, 0⟩ steps.length _ rfl (by omega) (by omega) (by omega) hd1
  obtain ⟨a', ha, hd'⟩ := stepsN_put _ post steps [] ⟨a1 + (putP (steps.length : Int)).length, 0, 0⟩ rfl hg.2 hC hd2
  refine ⟨a', ?_, hd'⟩
  unfold preP
  rw [h1, hn, Int.toNat_natCast, ha, List.nil_append]
theorem read_back : readP (bytesP core steps) = (core, steps, 0, 0) := by
  obtain ⟨a', h, hd⟩ := pre_put core steps hg hc hs hC []
  have h2 := bytes_two core steps []
  rw [List.append_nil] at h hd h2
  have ha : (bytesP core steps).length ≤ a' := List.drop_eq_nil_iff.mp hd
  unfold readP
  rw [if_neg (by omega), bodyP_pre, h]
  unfold endP
  dsimp only
  rw [if_neg (show ¬ a' < (bytesP core steps).length by omega)]
  rfl
theorem read_more (x : Int) : readP (bytesP core steps ++ [x]) = ([], [], ((bytesP core steps).length : Int), 13) := by
  obtain ⟨a', h, hd⟩ := pre_put core steps hg hc hs hC [x]
  have h2 := bytes_two core steps [x]
  have ha : a' = (bytesP core steps).length := by
    have := congrArg List.length hd
    rw [List.length_drop, List.length_append, List.length_singleton] at this
    omega
  unfold readP
  have hlt : (bytesP core steps).length < (bytesP core steps ++ [x]).length := by simp
  have hE : endP (bytesP core steps ++ [x]) ⟨(bytesP core steps).length, 0, 0⟩ = ⟨(bytesP core steps).length, ((bytesP core steps).length : Int), 13⟩ := by
    unfold endP
    rw [if_pos hlt]
    rfl
  rw [if_neg (by omega), bodyP_pre, h, ha]
  dsimp only
  rw [hE]
  rfl
end
/-! More bytes behind: what went well goes just so. -/
theorem num_ext (c d : List Int) (a : Nat) : ∀ m n (x : Int), n + m = 5 → a + n ≤ c.length → (numN c a m n x).2.2 = 0 → numN (c ++ d) a m n x = numN c a m n x := by
  intro m
  induction m with
  | zero => intro n x hn ha he; rfl
  | succ m ih =>
    intro n x hn ha he
    rw [numN] at he ⊢
    conv => rhs; rw [numN]
    by_cases h1 : a + n = c.length
    · rw [if_pos h1] at he; cases he
    have hlt : a + n < c.length := by omega
    have e : (c ++ d).getD (a + n) 0 = c.getD (a + n) 0 := by
      rw [List.getD_eq_getElem?_getD, List.getD_eq_getElem?_getD, List.getElem?_append_left hlt]
    rw [if_neg (by rw [List.length_append]; omega), if_neg h1, e]
    rw [if_neg h1] at he
    by_cases h2 : c.getD (a + n) 0 ≥ 128
    · rw [if_pos h2] at he
      rw [if_pos h2, if_pos h2]
      exact ih _ _ (by omega) (by omega) he
    · rw [if_neg h2, if_neg h2]
theorem next_ext (c d : List Int) (most : Int) (s : RS) (ha : s.a ≤ c.length) (he : (nextP c most s).2.e = 0) : s.e = 0 ∧ nextP (c ++ d) most s = nextP c most s := by
  unfold nextP at he ⊢
  by_cases h0 : s.e ≠ 0
  · rw [if_pos h0] at he; exact absurd he h0
  rw [if_neg h0] at he
  refine ⟨by omega, ?_⟩
  rw [if_neg h0, if_neg h0]
  by_cases h1 : (numP c s.a).2.2 ≠ 0
  · rw [if_pos h1] at he; exact absurd he h1
  have := num_ext c d s.a 5 0 0 rfl (by omega) (by unfold numP at h1; omega)
  have e : numP (c ++ d) s.a = numP c s.a := this
  rw [e]
theorem failP_ok {s : RS} {a e : Int} (he : e ≠ 0) (h : (failP s a e).e = 0) : False := failP_e s a e he h
theorem failP_id {s : RS} {a e : Int} (h : s.e ≠ 0) : failP s a e = s := by unfold failP; rw [if_neg h]
theorem corS_ok (c : List Int) (out : List Int) (s : RS) (h : (corS c out s).e = 0) : (nextP c 1048575 s).2.e = 0 := by
  unfold corS corT at h
  split at h
  · exact absurd h (failP_e _ _ _ (by decide))
  · unfold corA at h
    split at h
    · exact absurd h (failP_e _ _ _ (by decide))
    · exact h
theorem coreN_ok (c : List Int) : ∀ m out s, (coreN c m out s).2.e = 0 → s.e = 0 := by
  intro m
  cases m with
  | zero => exact fun out s h => h
  | succ m =>
    intro out s h
    rw [coreN] at h
    by_cases h0 : s.e ≠ 0
    · rw [if_pos h0] at h; exact h
    · omega
theorem core_ext (c d : List Int) : ∀ m out s, s.a ≤ c.length → (coreN c m out s).2.e = 0 → coreN (c ++ d) m out s = coreN c m out s := by
  intro m
  induction m with
  | zero => exact fun out s _ h => rfl
  | succ m ih =>
    intro out s ha h
    have h0 := coreN_ok c _ _ _ h
    rw [coreN, if_neg (by omega)] at h
    have h1 := coreN_ok c _ _ _ h
    have h2 := corS_ok c out s h1
    obtain ⟨_, hn⟩ := next_ext c d 1048575 s ha h2
    have hS : corS (c ++ d) out s = corS c out s := by unfold corS; rw [hn]
    rw [coreN, if_neg (by omega), coreN, if_neg (by omega), hn, hS]
    refine ih _ _ ?_ h
    unfold corS
    rw [corT_a]
    exact (nextP_in c 1048575 (by omega) s ha).1
theorem coreP_ext (c d : List Int) (s : RS) (ha : s.a ≤ c.length) (h : (coreP c s).2.e = 0) : coreP (c ++ d) s = coreP c s := by
  unfold coreP at h ⊢
  have h1 := coreN_ok c _ _ _ h
  obtain ⟨_, hn⟩ := next_ext c d 65536 s ha h1
  rw [hn]
  exact core_ext c d _ _ _ (nextP_in c 65536 (by omega) s ha).1 h
theorem litS_ok (last a x : Int) (t : RS) (h : (litS last a x t).e = 0) : t.e = 0 := by
  unfold litS at h
  split at h
  · exact absurd h (failP_e _ _ _ (by decide))
  · exact h
theorem stpN_ok (c : List Int) : ∀ m out last s, (stpN c m out last s).2.e = 0 → s.e = 0 := by
  intro m
  cases m with
  | zero => exact fun out last s h => h
  | succ m =>
    intro out last s h
    rw [stpN] at h
    by_cases h0 : s.e ≠ 0
    · rw [if_pos h0] at h; exact h
    · omega
theorem stpN_ext (c d : List Int) : ∀ m out last s, s.a ≤ c.length → (stpN c m out last s).2.e = 0 → stpN (c ++ d) m out last s = stpN c m out last s := by
  intro m
  induction m with
  | zero => exact fun out last s _ h => rfl
  | succ m ih =>
    intro out last s ha h
    have h0 := stpN_ok c _ _ _ _ h
    rw [stpN, if_neg (by omega)] at h
    have h1 := stpN_ok c _ _ _ _ h
    have h2 := litS_ok _ _ _ _ h1
    obtain ⟨_, hn⟩ := next_ext c d 33554433 s ha h2
    rw [stpN, if_neg (by omega), stpN, if_neg (by omega), hn]
    refine ih _ _ _ ?_ h
    unfold litS
    split
    · rw [failP_a]; exact (nextP_in c 33554433 (by omega) s ha).1
    · exact (nextP_in c 33554433 (by omega) s ha).1
theorem stepP_ext (c d : List Int) (s : RS) (ha : s.a ≤ c.length) (h : (stepP c s).2.2.e = 0) : s.e = 0 ∧ stepP (c ++ d) s = stepP c s := by
  unfold stepP at h ⊢
  have h1 := stpN_ok c _ _ _ _ h
  have hBa : (stpB c s).a ≤ c.length := by
    unfold stpB knd
    split
    · rw [failP_a]; exact (nextP_in c 4294967295 (by omega) s ha).1
    · exact (nextP_in c 4294967295 (by omega) s ha).1
  obtain ⟨hB, hn2⟩ := next_ext c d 4096 (stpB c s) hBa h1
  have h2 : (nextP c 4294967295 s).2.e = 0 := by
    unfold stpB knd at hB
    split at hB
    · exact absurd hB (failP_e _ _ _ (by decide))
    · exact hB
  obtain ⟨h3, hn⟩ := next_ext c d 4294967295 s ha h2
  have hBe : stpB (c ++ d) s = stpB c s := by unfold stpB; rw [hn]
  refine ⟨h3, ?_⟩
  rw [hn, hBe, hn2, stpN_ext c d _ _ _ _ (nextP_in c 4096 (by omega) _ hBa).1 h]
theorem stepsN_ok (c : List Int) : ∀ m out s, (stepsN c m out s).2.e = 0 → s.e = 0 := by
  intro m
  cases m with
  | zero => exact fun out s h => h
  | succ m =>
    intro out s h
    rw [stepsN] at h
    by_cases h0 : s.e ≠ 0
    · rw [if_pos h0] at h; exact h
    · omega
theorem steps_ext (c d : List Int) : ∀ m out s, s.a ≤ c.length → (stepsN c m out s).2.e = 0 → stepsN (c ++ d) m out s = stepsN c m out s ∧ (stepsN c m out s).2.a ≤ c.length := by
  intro m
  induction m with
  | zero => exact fun out s ha h => ⟨rfl, ha⟩
  | succ m ih =>
    intro out s ha h
    have h0 := stepsN_ok c _ _ _ h
    rw [stepsN, if_neg (by omega)] at h
    have h1 := stepsN_ok c _ _ _ h
    obtain ⟨_, hn⟩ := stepP_ext c d s ha h1
    rw [stepsN, if_neg (by omega), stepsN, if_neg (by omega), hn]
    exact ih _ _ (stepP_a c s ha) h
theorem pre_ext (c d : List Int) (h2 : 2 ≤ c.length) (h : (preP c).2.2.e = 0) : preP (c ++ d) = preP c ∧ (preP c).2.2.a ≤ c.length := by
  unfold preP at h ⊢
  have ha := coreP_a c ⟨2, 0, 0⟩ h2
  have h1 := stepsN_ok c _ _ _ h
  have hb := (nextP_in c 1048576 (by omega) _ ha).1
  have h0 : (coreP c ⟨2, 0, 0⟩).2.e = 0 := (next_ext c d 1048576 _ ha h1).1
  have hn := (next_ext c d 1048576 _ ha h1).2
  have hs := steps_ext c d _ _ _ hb h
  rw [coreP_ext c d _ h2 h0, hn, hs.1]
  exact ⟨rfl, hs.2⟩
theorem read_cut (core : List Int) (steps : List S95) (hg : goodG core steps = true) (hc : core.length ≤ 60) (hs : steps.length ≤ 30) (hC : ∀ s ∈ steps, s.f1.length ≤ 30) (j : Nat) (hj : j < (bytesP core steps).length) : (readP ((bytesP core steps).take j)).2.2.2 ≠ 0 := by
  have hB : (bytesP core steps).take j ++ (bytesP core steps).drop j = bytesP core steps := List.take_append_drop ..
  have hlen : ((bytesP core steps).take j).length = j := by rw [List.length_take]; omega
  obtain ⟨a', h, hd⟩ := pre_put core steps hg hc hs hC []
  rw [List.append_nil] at h hd
  have ha : (bytesP core steps).length ≤ a' := List.drop_eq_nil_iff.mp hd
  generalize hcq : (bytesP core steps).take j = c at hB hlen
  generalize (bytesP core steps).drop j = d at hB
  unfold readP
  by_cases h2 : c.length < 2
  · rw [if_pos h2]; decide
  rw [if_neg h2]
  by_cases h3 : (bodyP c).2.2.e ≠ 0
  · rw [if_pos h3]; exact h3
  exfalso
  rw [bodyP_pre] at h3
  unfold endP at h3
  dsimp only at h3
  by_cases h4 : (preP c).2.2.a < c.length
  · rw [if_pos h4] at h3; exact h3 (failP_e _ _ _ (by decide))
  rw [if_neg h4] at h3
  obtain ⟨he, hle⟩ := pre_ext c d (by omega) (by omega)
  rw [hB, h] at he
  have := congrArg (fun r : List Int × List S95 × RS => r.2.2.a) he
  dsimp only at this
  omega
end Go.Proofs.Ytcebjhbphcoboaa.Crt
