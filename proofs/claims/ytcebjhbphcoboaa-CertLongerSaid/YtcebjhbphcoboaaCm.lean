/- Certificates: the document's words: which are right, their bytes, whether two are the same; few. Plain Lean. -/
import Derived.Test.YtcebjhbphcoboaaCk
namespace Go.Proofs.Ytcebjhbphcoboaa.Crt
open Go Go.RowKit Go.Proofs.Ytcebjhbphcoboaa.C Go.Proofs.Ytcebjhbphcoboaa.Hlp Go.Proofs.YtcebjhbphcoboaaW.PrintWords Go.Proofs.YtcebjhbphcoboaaW.PrintLast Go.Proofs.YtcebjhbphcoboaaW.PrintMore Go.Proofs.Ytcebjhbphcoboaa.Aid Go.Proofs.Ytcebjhbphcoboaa.Clause12 Go.Proofs.Ytcebjhbphcoboaa.Clean12
set_option linter.unusedVariables false
set_option linter.unusedSimpArgs false
theorem rd_mem (core : List Int) (n : Nat) (h : n < core.length) : rd core (n : Int) ∈ core := by rw [rd_nat core n h]; exact List.getElem_mem h
theorem rd95_mem (steps : List S95) (n : Nat) (h : n < steps.length) : rd_T95 steps (n : Int) ∈ steps := by rw [rd95_nat steps n h]; exact List.getElem_mem h
section
variable (core : List Int) (steps : List S95) (hc : core.length ≤ 60) (hs : steps.length ≤ 30) (hC : ∀ s ∈ steps, s.f1.length ≤ 30)
include hc hs hC
omit hc in
theorem refGood_l1 : ∀ m n : Nat, steps.length - n = m → n ≤ steps.length → Ev (fun k => ferruleref23_Good.l1 k (n : Int) core steps) ((steps.drop n).all stepG) := by
  intro m
  induction m with
  | zero =>
    intro n hm hn
    refine Ev.step (fun k => by rw [ferruleref23_Good.l1]) (ev_neg (by omega) (ev_now ?_))
    rw [List.drop_eq_nil_of_le (by omega)]; rfl
  | succ m ih =>
    intro n hm hn
    have hlt : n < steps.length := by omega
    have hl := hC _ (rd95_mem steps n hlt)
    have hcl := cleanP_len (rd_T95 steps n).f1
    rw [all_drop steps n hlt]
    refine Ev.step (fun k => by rw [ferruleref23_Good.l1]) (ev_pos (by omega) (ev_pos (by omega) (ev_bind (cleanR_ev _ (by omega)) ?_)))
    unfold stepG
    by_cases h1 : (rd_T95 steps (n : Int)).f0 < 0
    · refine ev_pos h1 (ev_now ?_)
      rw [decide_eq_false (show ¬ 0 ≤ (rd_T95 steps (n : Int)).f0 by omega)]; simp
    refine ev_neg h1 ?_
    by_cases h2 : (rd_T95 steps (n : Int)).f0 > 2
    · refine ev_pos h2 (ev_now ?_)
      rw [decide_eq_false (show ¬ (rd_T95 steps (n : Int)).f0 ≤ 2 by omega)]; simp
    refine ev_neg h2 (ev_neg (by omega) ?_)
    rw [decide_eq_true (show 0 ≤ (rd_T95 steps (n : Int)).f0 by omega), decide_eq_true (show (rd_T95 steps (n : Int)).f0 ≤ 2 by omega)]
    by_cases h3 : (cleanP (rd_T95 steps (n : Int)).f1).2 = true
    · refine ev_pos h3 (ev_now ?_)
      rw [h3]; simp
    refine ev_neg h3 (ev_bind (refSame_ev _ _ (by omega)) ?_)
    rw [Bool.eq_false_iff.mpr h3]
    by_cases h4 : (cleanP (rd_T95 steps (n : Int)).f1).1 = (rd_T95 steps (n : Int)).f1
    · refine ev_pos (decide_eq_true h4) ?_
      rw [wrap64_in (by omega) (by omega), decide_eq_true h4]
      exact ih (n + 1) (by omega) (by omega)
    · refine ev_neg (by rw [decide_eq_false h4]; decide) (ev_now ?_)
      rw [decide_eq_false h4]; simp
theorem refGood_l0 : ∀ m (n : Nat) (last : Int), core.length - n = m → n ≤ core.length → -1 ≤ last → (0 < n → last = rd core ((n : Int) - 1)) → (n = 0 → last = -1) → Ev (fun k => ferruleref23_Good.l0 k (n : Int) core steps) (coreG last (core.drop n) && steps.all stepG) := by
  intro m
  induction m with
  | zero =>
    intro n last hm hn h1 h2 h3
    have := refGood_l1 core steps hs hC _ 0 rfl (Nat.zero_le _)
    rw [List.drop_zero] at this
    refine Ev.step (fun k => by rw [ferruleref23_Good.l0]) (ev_neg (by omega) ?_)
    rw [List.drop_eq_nil_of_le (by omega), coreG, Bool.true_and]
    exact this
  | succ m ih =>
    intro n last hm hn h1 h2 h3
    have hlt : n < core.length := by omega
    rw [List.drop_eq_getElem_cons hlt, ← rd_nat core n hlt, coreG]
    refine Ev.step (fun k => by rw [ferruleref23_Good.l0]) (ev_pos (by omega) (ev_pos (by omega) ?_))
    by_cases g1 : rd core (n : Int) < 0
    · rw [if_pos (show rd core (n : Int) ≤ last by omega)]
      exact ev_pos g1 (ev_now (by simp))
    refine ev_neg g1 ?_
    by_cases g2 : rd core (n : Int) > 1048575
    · refine ev_pos g2 (ev_now ?_)
      split <;> simp
    refine ev_neg g2 ?_
    rw [if_neg g2]
    have hnext : Ev (fun k => ferruleref23_Good.l0 k (wrap64 ((n : Int) + 1)) core steps) (coreG (rd core n) (core.drop (n + 1)) && steps.all stepG) := by
      rw [wrap64_in (by omega) (by omega)]
      exact ih (n + 1) (rd core n) (by omega) (by omega) (by omega) (fun _ => by rw [show ((n + 1 : Nat) : Int) - 1 = (n : Int) by omega]) (fun h => by omega)
    by_cases g3 : (n : Int) > 0
    · rw [wrap64_in (x := (n : Int) - 1) (by omega) (by omega), ← h2 (by omega)]
      refine ev_pos g3 (ev_pos (by omega) (ev_pos (by omega) ?_))
      by_cases g4 : rd core (n : Int) ≤ last
      · rw [if_pos g4]
        exact ev_pos g4 (ev_now (by simp))
      · rw [if_neg g4]
        exact ev_neg g4 hnext
    · rw [if_neg (show ¬ rd core (n : Int) ≤ last by have := h3 (by omega); omega)]
      exact ev_neg g3 hnext
theorem refGood_ev : Ev (fun k => ferruleref23_Good.f k core steps) (goodG core steps) := by
  have := refGood_l0 core steps hc hs hC _ 0 (-1) rfl (Nat.zero_le _) (by omega) (fun h => by omega) (fun _ => rfl)
  rw [List.drop_zero] at this
  unfold ferruleref23_Good.f goodG
  refine ev_neg (by omega) (Ev.step (fun k => by rw [ferruleref23_Good.j0]) ?_)
  exact ev_neg (by simp; omega) this
end
/-! How many parts. -/
theorem few_l0 (core : List Int) (steps : List S95) (hs : steps.length ≤ 30) : ∀ m n : Nat, steps.length - n = m → n ≤ steps.length → Ev (fun k => ferrulelaw23_few.l0 k (n : Int) core steps) ((steps.drop n).all fun s => decide (s.f1.length ≤ 30)) := by
  intro m
  induction m with
  | zero =>
    intro n hm hn
    refine Ev.step (fun k => by rw [ferrulelaw23_few.l0]) (ev_neg (by omega) (ev_now ?_))
    rw [List.drop_eq_nil_of_le (by omega)]; rfl
  | succ m ih =>
    intro n hm hn
    have hlt : n < steps.length := by omega
    rw [List.drop_eq_getElem_cons hlt, ← rd95_nat steps n hlt, List.all_cons]
    refine Ev.step (fun k => by rw [ferrulelaw23_few.l0]) (ev_pos (by omega) (ev_pos (by omega) ?_))
    by_cases g : (((rd_T95 steps n).f1).length : Int) > 30
    · refine ev_pos g (ev_now ?_)
      rw [decide_eq_false (by omega)]; rfl
    · rw [decide_eq_true (show (rd_T95 steps (n : Int)).f1.length ≤ 30 by omega), Bool.true_and, wrap64_in (by omega) (by omega)]
      exact ev_neg g (ih (n + 1) (by omega) (by omega))
def fewP (core : List Int) (steps : List S95) : Bool := decide (core.length ≤ 60) && decide (steps.length ≤ 30) && steps.all fun s => decide (s.f1.length ≤ 30)
theorem few_ev (core : List Int) (steps : List S95) : Ev (fun k => ferrulelaw23_few.f k core steps) (fewP core steps) := by
  unfold ferrulelaw23_few.f fewP
  by_cases h1 : (core.length : Int) > 60
  · refine ev_pos h1 (Ev.step (fun k => by rw [ferrulelaw23_few.j0]) (ev_pos rfl (ev_now ?_)))
    rw [decide_eq_false (by omega)]; rfl
  refine ev_neg h1 (Ev.step (fun k => by rw [ferrulelaw23_few.j0]) ?_)
  rw [decide_eq_true (show core.length ≤ 60 by omega)]
  by_cases h2 : (steps.length : Int) > 30
  · refine ev_pos (decide_eq_true h2) (ev_now ?_)
    rw [decide_eq_false (by omega)]; rfl
  · refine ev_neg (by simpa using h2) ?_
    rw [decide_eq_true (show steps.length ≤ 30 by omega)]
    have := few_l0 core steps (by omega) _ 0 rfl (Nat.zero_le _)
    rwa [List.drop_zero] at this
/-! The bytes. -/
theorem refPut_l0 : ∀ m (v : Int) (acc : List Int), 0 ≤ v → v < 128 ^ m → v < 4294967296 → 1 ≤ m → m ≤ 5 → acc.length + m ≤ 100 → Ev (fun k => ferruleref23_Put.l0 k v acc) (putN m v acc) := by
  intro m
  induction m with
  | zero => intro v acc h0 h1 h2; omega
  | succ m ih =>
    intro v acc h0 h1 hv4 h2 h3 h4
    rw [putN]
    refine Ev.step (fun k => by rw [ferruleref23_Put.l0]) ?_
    by_cases hv : v > 127
    · rw [if_pos hv]
      have hm : 1 ≤ m := by
        rcases Nat.eq_zero_or_pos m with e | e
        · subst e; simp at h1; omega
        · exact e
      have e1 : ((Int.tmod v 128) % 256 + 128) % 256 = v % 128 + 128 := by rw [Int.tmod_eq_emod_of_nonneg h0]; omega
      have e2 : (Int.tdiv v 128) % 4294967296 = v / 128 := by rw [Int.tdiv_eq_ediv_of_nonneg h0]; omega
      refine ev_pos (by omega) (ev_pos (by omega) ?_)
      rw [e1, e2]
      refine ih (v / 128) _ (by omega) ?_ (by omega) hm (by omega) (by simp; omega)
      have : (128 : Int) ^ (m + 1) = 128 ^ m * 128 := Int.pow_succ ..
      omega
    · rw [if_neg hv]
      refine ev_neg (by omega) (ev_pos (by omega) (ev_now ?_))
      rw [show v % 256 = v by omega]
theorem refPut_ev (v : Int) (h0 : 0 ≤ v) (h1 : v < 4294967296) : Ev (fun k => ferruleref23_Put.f k v) (putP v) := by
  unfold ferruleref23_Put.f putP
  exact refPut_l0 5 v [] h0 (pow5 h1) h1 (by omega) (by omega) (by simp)
/-- A number more, behind others. -/
theorem ev_put {α : Type} (v v' : Int) (x : List Int) (r : α) (f : Nat → List Int → Option α) (h : v' % 4294967296 = v) (hv0 : 0 ≤ v) (hv1 : v < 4294967296) (hx : x.length ≤ 1000000) (hf : Ev (fun k => f k (x ++ putP v)) r) :
    Ev (fun k => (ferruleref23_Put.f k (v' % 4294967296)).bind fun t => if x.length + t.length < 140737488355328 then f k (x ++ t) else none) r := by
  rw [h]
  refine ev_bind (refPut_ev v hv0 hv1) (ev_pos ?_ hf)
  have := putP_len v
  omega
theorem coreNs_in : ∀ (ps : List Int) (g last : Int), coreG g ps = true → -1 ≤ g → g ≤ last → last ≤ g + 1 → 0 ≤ last → ∀ v ∈ coreNs last ps, 0 ≤ v ∧ v ≤ 1048575 := by
  intro ps
  induction ps with
  | nil => intro g last hg h1 h2 h3 h4 v hv; cases hv
  | cons p ps ih =>
    intro g last hg h1 h2 h3 h4 v hv
    rw [coreG] at hg
    by_cases c1 : p ≤ g
    · rw [if_pos c1] at hg; cases hg
    rw [if_neg c1] at hg
    by_cases c2 : p > 1048575
    · rw [if_pos c2] at hg; cases hg
    rw [if_neg c2] at hg
    rw [coreNs, List.mem_cons] at hv
    rcases hv with rfl | hv
    · omega
    · exact ih p p hg (by omega) (by omega) (by omega) (by omega) v hv
theorem certNs_in (core : List Int) (steps : List S95) (hg : goodG core steps = true) (hc : core.length ≤ 60) (hs : steps.length ≤ 30) (hC : ∀ s ∈ steps, s.f1.length ≤ 30) : ∀ v ∈ certNs core steps, 0 ≤ v ∧ v < 4294967296 := by
  unfold goodG at hg
  rw [Bool.and_eq_true, List.all_eq_true] at hg
  intro v hv
  unfold certNs at hv
  rw [List.mem_cons, List.mem_append, List.mem_cons, List.mem_flatMap] at hv
  rcases hv with rfl | hv | rfl | ⟨s, hs', hv⟩
  · omega
  · have := coreNs_in core (-1) 0 hg.1 (by omega) (by omega) (by omega) (by omega) v hv
    omega
  · omega
  · obtain ⟨⟨h1, h2⟩, h3, _⟩ := clean_facts s (hg.2 s hs')
    unfold stepNs at hv
    rw [List.mem_cons, List.mem_cons, List.mem_map] at hv
    have := hC s hs'
    rcases hv with rfl | rfl | ⟨x, hx, rfl⟩
    · omega
    · omega
    · have := abs_range (h3 x hx)
      exact numbL_in x this.1 this.2
theorem puts_le (ns : List Int) : (putsP ns).length ≤ 5 * ns.length := by
  induction ns with
  | nil => simp [putsP]
  | cons v ns ih => rw [puts_cons, List.length_append, List.length_cons]; have := putP_len v; omega
theorem coreNs_len : ∀ (ps : List Int) (last : Int), (coreNs last ps).length = ps.length := by
  intro ps
  induction ps with
  | nil => intro last; rfl
  | cons p ps ih => intro last; rw [coreNs, List.length_cons, ih, List.length_cons]
theorem flat_len : ∀ (steps : List S95), (∀ s ∈ steps, s.f1.length ≤ 30) → (steps.flatMap stepNs).length ≤ 32 * steps.length := by
  intro steps
  induction steps with
  | nil => intro h; simp
  | cons s steps ih =>
    intro h
    rw [List.flatMap_cons, List.length_append, List.length_cons]
    have h1 := ih fun t ht => h t (List.mem_cons_of_mem _ ht)
    have h2 := h s (List.mem_cons_self ..)
    have h3 : (stepNs s).length = s.f1.length + 2 := by unfold stepNs; simp
    omega
theorem bytes_len (core : List Int) (steps : List S95) (hc : core.length ≤ 60) (hs : steps.length ≤ 30) (hC : ∀ s ∈ steps, s.f1.length ≤ 30) : (bytesP core steps).length ≤ 10000 := by
  have h1 := puts_le (certNs core steps)
  have h2 := coreNs_len core 0
  have h3 := flat_len steps hC
  have h4 : (certNs core steps).length = core.length + (steps.flatMap stepNs).length + 2 := by unfold certNs; simp [h2]; omega
  unfold bytesP
  rw [List.length_append]
  simp only [List.length_cons, List.length_nil]
  omega
section
variable (core : List Int) (steps : List S95) (hg : goodG core steps = true) (hc : core.length ≤ 60) (hs : steps.length ≤ 30) (hC : ∀ s ∈ steps, s.f1.length ≤ 30)
include hg hc hs hC
theorem refBytes_l12 : ∀ m j : Nat, steps.length - j = m → j ≤ steps.length → ∀ acc, acc ++ putsP ((steps.drop j).flatMap stepNs) = bytesP core steps → Ev (fun k => ferruleref23_Bytes.l1 k acc (j : Int) core steps) (bytesP core steps) := by
  have hB := bytes_len core steps hc hs hC
  have hgs := hg
  unfold goodG at hgs
  rw [Bool.and_eq_true, List.all_eq_true] at hgs
  intro m
  induction m with
  | zero =>
    intro j hm hj acc hacc
    rw [List.drop_eq_nil_of_le (by omega)] at hacc
    refine Ev.step (fun k => by rw [ferruleref23_Bytes.l1]) (ev_neg (by omega) (ev_now ?_))
    rw [← hacc]; simp [putsP]
  | succ m ih =>
    intro j hm hj acc hacc
    have hlt : j < steps.length := by omega
    have hmem := rd95_mem steps j hlt
    have hl := hC _ hmem
    obtain ⟨⟨k0, k1⟩, hp, _⟩ := clean_facts _ (hgs.2 _ hmem)
    rw [steps_drop steps j hlt] at hacc
    have hlen := congrArg List.length hacc
    simp only [List.length_append] at hlen
    have inner : ∀ q i : Nat, (rd_T95 steps j).f1.length - i = q → i ≤ (rd_T95 steps j).f1.length → ∀ a2, a2 ++ putsP (((rd_T95 steps j).f1.drop i).map numbL) ++ putsP ((steps.drop (j + 1)).flatMap stepNs) = bytesP core steps →
        Ev (fun k => ferruleref23_Bytes.l2 k a2 (j : Int) (i : Int) core steps (rd_T95 steps j).f0 (rd_T95 steps j).f1) (bytesP core steps) := by
      intro q
      induction q with
      | zero =>
        intro i hq hi a2 ha2
        rw [List.drop_eq_nil_of_le (by omega), List.map_nil, show putsP [] = [] from rfl, List.append_nil] at ha2
        refine Ev.step (fun k => by rw [ferruleref23_Bytes.l2]) (ev_neg (by omega) ?_)
        rw [wrap64_in (by omega) (by omega)]
        exact ih (j + 1) (by omega) (by omega) a2 ha2
      | succ q ih2 =>
        intro i hq hi a2 ha2
        have hlt2 : i < (rd_T95 steps j).f1.length := by omega
        have hx := abs_range (hp _ (rd_mem _ i hlt2))
        rw [lits_drop _ i hlt2, ← List.append_assoc] at ha2
        have hlen2 := congrArg List.length ha2
        simp only [List.length_append] at hlen2
        have hnb := numbL_in _ hx.1 hx.2
        have hn := ih2 (i + 1) (by omega) (by omega) _ ha2
        refine Ev.step (fun k => by rw [ferruleref23_Bytes.l2]) (ev_pos (by omega) (ev_pos (by omega) ?_))
        rw [wrap64_in (x := 2 * rd (rd_T95 steps j).f1 i) (by omega) (by omega), wrap64_in (x := 1 - 2 * rd (rd_T95 steps j).f1 i) (by omega) (by omega), wrap64_in (x := (i : Int) + 1) (by omega) (by omega)]
        by_cases hneg : 2 * rd (rd_T95 steps (j : Int)).f1 (i : Int) < 0
        · refine ev_pos hneg (ev_put (numbL (rd (rd_T95 steps j).f1 i)) _ a2 _ (fun k t => ferruleref23_Bytes.l2 k t (j : Int) ((i : Int) + 1) core steps (rd_T95 steps j).f0 (rd_T95 steps j).f1) ?_ hnb.1 hnb.2 (by omega) hn)
          unfold numbL
          rw [if_pos (by omega)]; omega
        · refine ev_neg hneg (ev_put (numbL (rd (rd_T95 steps j).f1 i)) _ a2 _ (fun k t => ferruleref23_Bytes.l2 k t (j : Int) ((i : Int) + 1) core steps (rd_T95 steps j).f0 (rd_T95 steps j).f1) ?_ hnb.1 hnb.2 (by omega) hn)
          unfold numbL
          rw [if_neg (by omega)]; omega
    refine Ev.step (fun k => by rw [ferruleref23_Bytes.l1]) (ev_pos (by omega) (ev_pos (by omega) ?_))
    refine ev_put (rd_T95 steps j).f0 _ acc _ (fun k t => (some t).bind fun y => (ferruleref23_Put.f k ((((rd_T95 steps j).f1).length : Int) % 4294967296)).bind fun t2 => if y.length + t2.length < 140737488355328 then ferruleref23_Bytes.l2 k (y ++ t2) (j : Int) 0 core steps (rd_T95 steps j).f0 (rd_T95 steps j).f1 else none) (by omega) k0 (by omega) (by omega) ?_
    refine ev_bind (Ev.now _) ?_
    refine ev_put (((rd_T95 steps j).f1).length : Int) _ (acc ++ putP (rd_T95 steps j).f0) _ (fun k t => ferruleref23_Bytes.l2 k t (j : Int) 0 core steps (rd_T95 steps j).f0 (rd_T95 steps j).f1) (by omega) (by omega) (by omega) (by rw [List.length_append]; omega) ?_
    exact inner _ 0 rfl (Nat.zero_le _) _ hacc
theorem refBytes_l0 : ∀ m (n : Nat) (g last : Int) acc, core.length - n = m → n ≤ core.length → coreG g (core.drop n) = true → -1 ≤ g → g ≤ last → last ≤ g + 1 → 0 ≤ last → (0 < n → last = rd core ((n : Int) - 1)) → (n = 0 → last = 0) → acc ++ putsP (coreNs last (core.drop n)) ++ putsP ((steps.length : Int) :: steps.flatMap stepNs) = bytesP core steps →
    Ev (fun k => ferruleref23_Bytes.l0 k acc (n : Int) core steps) (bytesP core steps) := by
  have hB := bytes_len core steps hc hs hC
  intro m
  induction m with
  | zero =>
    intro n g last acc hm hn hG g1 g2 g3 g4 h1 h2 hacc
    rw [List.drop_eq_nil_of_le (by omega), show putsP (coreNs last []) = [] from rfl, List.append_nil, puts_cons, ← List.append_assoc] at hacc
    have hlen := congrArg List.length hacc
    simp only [List.length_append] at hlen
    refine Ev.step (fun k => by rw [ferruleref23_Bytes.l0]) (ev_neg (by omega) ?_)
    refine ev_put (steps.length : Int) _ acc _ (fun k t => ferruleref23_Bytes.l1 k t 0 core steps) (by omega) (by omega) (by omega) (by omega) ?_
    exact refBytes_l12 core steps hg hc hs hC _ 0 rfl (Nat.zero_le _) _ (by rw [List.drop_zero]; exact hacc)
  | succ m ih =>
    intro n g last acc hm hn hG g1 g2 g3 g4 h1 h2 hacc
    have hlt : n < core.length := by omega
    have hin := coreNs_in _ g last hG g1 g2 g3 g4
    rw [coreNs_drop last core n hlt] at hacc hin
    have hv := hin _ (List.mem_cons_self ..)
    rw [List.drop_eq_getElem_cons hlt, ← rd_nat core n hlt, coreG] at hG
    by_cases c1 : rd core (n : Int) ≤ g
    · rw [if_pos c1] at hG; cases hG
    rw [if_neg c1] at hG
    by_cases c2 : rd core (n : Int) > 1048575
    · rw [if_pos c2] at hG; cases hG
    rw [if_neg c2] at hG
    rw [puts_cons, ← List.append_assoc acc] at hacc
    have hlen := congrArg List.length hacc
    simp only [List.length_append] at hlen
    have hnext := ih (n + 1) (rd core n) (rd core n) _ (by omega) (by omega) hG (by omega) (by omega) (by omega) (by omega) (fun _ => by rw [show ((n + 1 : Nat) : Int) - 1 = (n : Int) by omega]) (fun h => by omega) hacc
    refine Ev.step (fun k => by rw [ferruleref23_Bytes.l0]) (ev_pos (by omega) (ev_pos (by omega) ?_))
    rw [wrap64_in (x := (n : Int) + 1) (by omega) (by omega)]
    by_cases c3 : (n : Int) > 0
    · rw [wrap64_in (x := (n : Int) - 1) (by omega) (by omega), ← h1 (by omega), wrap64_in (x := rd core (n : Int) - last) (by omega) (by omega)]
      refine ev_pos c3 (ev_pos (by omega) (ev_pos (by omega) ?_))
      exact ev_put (rd core n - last) _ acc _ (fun k t => ferruleref23_Bytes.l0 k t ((n : Int) + 1) core steps) (by omega) (by omega) (by omega) (by omega) hnext
    · have h0 := h2 (by omega)
      refine ev_neg c3 ?_
      exact ev_put (rd core n - last) _ acc _ (fun k t => ferruleref23_Bytes.l0 k t ((n : Int) + 1) core steps) (by omega) (by omega) (by omega) (by omega) hnext
theorem refBytes_ev : Ev (fun k => ferruleref23_Bytes.f k core steps) (bytesP core steps) := by
  have hgs := hg
  unfold goodG at hgs
  rw [Bool.and_eq_true] at hgs
  unfold ferruleref23_Bytes.f
  refine ev_bind (Ev.now _) ?_
  refine ev_put (core.length : Int) _ [70, 67] _ (fun k t => ferruleref23_Bytes.l0 k t 0 core steps) (by omega) (by omega) (by omega) (by simp) ?_
  refine refBytes_l0 core steps hg hc hs hC _ 0 (-1) 0 _ rfl (Nat.zero_le _) hgs.1 (by omega) (by omega) (by omega) (by omega) (fun h => by omega) (fun _ => rfl) ?_
  unfold bytesP certNs
  simp only [List.drop_zero, puts_cons, puts_app, List.append_assoc]
/-! A certificate and itself. -/
omit hg hc in
theorem same_steps : ∀ m j : Nat, steps.length - j = m → j ≤ steps.length → Ev (fun k => ferruleref23_Same.l0 k (j : Int) core steps core steps) true := by
  intro m
  induction m with
  | zero =>
    intro j hm hj
    exact Ev.step (fun k => by rw [ferruleref23_Same.l0]) (ev_neg (by omega) (Ev.now _))
  | succ m ih =>
    intro j hm hj
    have hlt : j < steps.length := by omega
    have hl := hC _ (rd95_mem steps j hlt)
    refine Ev.step (fun k => by rw [ferruleref23_Same.l0]) (ev_pos (by omega) (ev_pos (by omega) (ev_pos (by omega) (ev_pos rfl (ev_bind (refSame_ev _ _ (by omega)) ?_)))))
    rw [decide_eq_true rfl, wrap64_in (by omega) (by omega)]
    exact ev_pos rfl (ih (j + 1) (by omega) (by omega))
omit hg in
theorem sameC_ev : Ev (fun k => ferruleref23_Same.f k core steps core steps) true := by
  unfold ferruleref23_Same.f
  refine ev_bind (refSame_ev core core (by omega)) ?_
  rw [decide_eq_true rfl]
  refine ev_pos rfl (Ev.step (fun k => by rw [ferruleref23_Same.j0]) (ev_neg (by simp) ?_))
  exact same_steps core steps hs hC _ 0 rfl (Nat.zero_le _)
end
/-! Bytes, whole. -/
theorem bytesC_calls (w : World) {A0 A1 : Option Addr} {c0 c1 : Nat} {core : List Int} {steps : List S95} (h0 : Kd.C (Kd.int .i64) w A0 core.length core) (hc0 : core.length ≤ c0) (h1 : Kd.C k95 w A1 steps.length steps) (hc1 : steps.length ≤ c1) (hf : fewP core steps = true) (hg : goodG core steps = true) :
    Calls Try.prog 27 #[.agg #[.slice A0 core.length c0, .slice A1 steps.length c1]] w fun e w' => ∃ u, e = .returned (.tuple #[u, .int .i64 0]) ∧ Kd.R (Kd.int .u8) 5 w' w.heap.size (fun _ => True) u (bytesP core steps) ∧ Below w.heap.size w w' := by
  unfold fewP at hf
  simp only [Bool.and_eq_true, decide_eq_true_eq, List.all_eq_true] at hf
  obtain ⟨⟨hc, hs⟩, hC⟩ := hf
  obtain ⟨k, hk⟩ := (good_ev core steps hc hs hC).rounds
  rw [hg] at hk
  have hgs := hg
  unfold goodG at hgs
  rw [Bool.and_eq_true, List.all_eq_true] at hgs
  have hB := bytes_len core steps hc hs hC
  refine (bytes_calls k w h0 hc0 h1 hc1 hk (certNs_in core steps hg hc hs hC) (by omega) (by omega) (by omega) (fun s hs' => ?_)).mono ?_
  · have := hC s hs'
    refine ⟨by omega, fun x hx => ?_⟩
    have := abs_range ((clean_facts s (hgs.2 s hs')).2.1 x hx)
    omega
  · rintro e w' ⟨u, rfl, ho, hb⟩
    exact ⟨u, rfl, ⟨fun _ _ => trivial, encs (Value.int .u8) (bytesP core steps), ⟨by show (encs (Value.int .u8) (bytesP core steps)).length = (bytesP core steps).length * 1; simp [encs], ho.2⟩, Kd.reps_scalar (bytesP core steps)⟩, hb⟩
set_option maxHeartbeats 4000000 in
set_option maxRecDepth 100000 in
theorem bytes_none (w : World) {A0 A1 : Option Addr} {c0 c1 : Nat} {core : List Int} {steps : List S95} (h0 : Kd.C (Kd.int .i64) w A0 core.length core) (hc0 : core.length ≤ c0) (h1 : Kd.C k95 w A1 steps.length steps) (hc1 : steps.length ≤ c1) (hf : fewP core steps = true) (hg : ¬ goodG core steps = true) :
    Calls Try.prog 27 #[.agg #[.slice A0 core.length c0, .slice A1 steps.length c1]] w fun e w' => ∃ u, e = .returned (.tuple #[u, .int .i64 3]) ∧ Kd.R (Kd.int .u8) 5 w' w.heap.size (fun _ => True) u [] ∧ Below w.heap.size w w' := by
  unfold fewP at hf
  simp only [Bool.and_eq_true, decide_eq_true_eq, List.all_eq_true] at hf
  obtain ⟨⟨hc, hs⟩, hC⟩ := hf
  obtain ⟨k, hk⟩ := (good_ev core steps hc hs hC).rounds
  rw [Bool.eq_false_iff.mpr hg] at hk
  have hBx : Below w.heap.size w (w.alloc (.cells #[.slice A0 core.length c0, .slice A1 steps.length c1] 52)) := (Below.refl _ _).alloc (Nat.le_refl _) _
  have hx := blk_new w (.cells #[.slice A0 core.length c0, .slice A1 steps.length c1] 52)
  have h0' := Kd.C_below h0 hBx
  have h1' := Kd.C_below h1 hBx
  generalize hWb : w.alloc (.cells #[.slice A0 core.length c0, .slice A1 steps.length c1] 52) = Wb at hBx hx h0' h1'
  have HWb := Aside0.mk hWb
  clear hWb
  have z0 := cell_far hx 0 (.slice A0 core.length c0) rfl
  have z1 := cell_far hx 1 (.slice A1 steps.length c1) rfl
  have hgood := cert_Good.calls k A0 c0 core A1 c1 steps false Wb h0' hc0 h1' hc1 hk
  go_enter Try.func27, Try.ntmps27
  go_wp2_with fail
  rw [HWb.out]
  go_wp2_with (first
    | (go_at_call 28; with_reducible refine hgood.mono ?_; rintro e1 w1 ⟨rfl, hB1⟩))
  go_ret2
  exact ⟨_, rfl, Kd.R_nil _ _ _ _ _, hBx.trans (hB1.mono hBx.size)⟩
end Go.Proofs.Ytcebjhbphcoboaa.Crt
