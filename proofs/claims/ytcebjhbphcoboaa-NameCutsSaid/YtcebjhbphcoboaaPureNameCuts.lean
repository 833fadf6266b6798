/- NameCuts: the pure statement, for every text, number and byte. -/
import Derived.Test.YtcebjhbphcoboaaName08
import Derived.Test.YtcebjhbphcoboaaXn5
namespace Go.Proofs.Ytcebjhbphcoboaa.Pure
open Go.RowKit Go.Proofs.Ytcebjhbphcoboaa.X Go.Proofs.YtcebjhbphcoboaaW.PrintWords Go.Proofs.YtcebjhbphcoboaaW.PrintMore Go.Proofs.Ytcebjhbphcoboaa.Aid Go.Proofs.Ytcebjhbphcoboaa.Name08
theorem run_more (r t : List Int) (h : ∀ x ∈ r, byteP x = true) : run (r ++ t) = r.length + run t := by
  unfold run
  rw [List.takeWhile_append_of_pos h, List.length_append]
theorem run_all (r : List Int) (h : ∀ x ∈ r, byteP x = true) : run r = r.length := by
  have := run_more r [] h
  rwa [List.append_nil] at this
theorem all_run (r : List Int) (h : run r = r.length) : ∀ x ∈ r, byteP x = true := by
  unfold run at h
  have e : r.takeWhile byteP = r := (List.takeWhile_prefix byteP).eq_of_length h
  have := List.all_takeWhile (p := byteP) (l := r)
  rw [e] at this
  exact List.all_eq_true.mp this
theorem good_split (s : ByteArray) (h : goodP s = true) : ∃ c r, bytesOf s = c :: r ∧ firstP c = true ∧ (∀ x ∈ r, byteP x = true) ∧ r.length + 1 ≤ 255 := by
  have hbl := bs_length s
  unfold goodP at h
  rw [Bool.and_eq_true, decide_eq_true_eq, beq_iff_eq] at h
  obtain ⟨h1, h2⟩ := h
  rw [← hbl] at h2
  generalize bytesOf s = l at h1 h2
  unfold scanP at h1 h2
  rw [if_neg (by omega)] at h1 h2
  cases l with
  | nil => simp [scanN] at h1
  | cons c r =>
    simp only [scanN, Int.toNat_zero, List.drop_zero] at h1 h2
    by_cases h3 : firstP c = true
    · rw [if_pos h3] at h1 h2
      unfold fin at h1 h2
      by_cases h4 : 1 + run r > 255
      · rw [if_pos h4] at h1; simp at h1
      · rw [if_neg h4] at h2
        simp only [List.length_cons] at h2
        have h5 : run r = r.length := by omega
        exact ⟨c, r, rfl, h3, all_run r h5, by omega⟩
    · rw [if_neg h3] at h1; simp at h1
theorem scan_cons (c : Int) (r : List Int) (h : firstP c = true) : scanP (c :: r) 0 = fin (1 + run r) := by
  unfold scanP
  rw [if_neg (by simp; omega)]
  simp only [scanN, Int.toNat_zero, List.drop_zero]
  rw [if_pos h]
theorem NameCuts : ferrulelaw08_NameCuts.Pure := by
  intro s n x hs hn hx
  have hn' : 0 ≤ n ∧ n < 256 := u8_wf (l := [n]) (by simpa using hn) n (by simp)
  have hx' : 0 ≤ x ∧ x < 256 := u8_wf (l := [x]) (by simpa using hx) x (by simp)
  have hbl := bs_length s
  have hbb := bs_bytes s
  refine Ev.rounds ?_
  unfold ferrulelaw08_NameCuts.f
  refine ev_bind (a := true) (ev_done rfl) (ev_pos rfl ?_)
  have out : Ev (fun k => ferrulelaw08_NameCuts.j0 k s n x true) true := Ev.step (fun k => by rw [ferrulelaw08_NameCuts.j0]) (ev_pos rfl (Ev.now _))
  by_cases h1 : (s.size : Int) = 0
  · exact ev_pos h1 out
  · refine ev_neg h1 ?_
    by_cases h2 : (s.size : Int) > 300
    · exact ev_pos h2 out
    · refine ev_neg h2 (ev_bind (good_p s (by omega)) ?_)
      by_cases h3 : goodP s = true
      · rw [h3]
        obtain ⟨c, r, hl, hc, hr, hlen⟩ := good_split s h3
        have hsz : s.size = r.length + 1 := by rw [← hbl, hl]; rfl
        refine Ev.step (fun k => by rw [ferrulelaw08_NameCuts.j0]) ?_
        refine ev_neg (by decide) (ev_neg h1 (ev_bind (Ev.now _) (ev_pos (by omega) ?_)))
        have hbx : ∀ y ∈ bytesOf s ++ [x], 0 ≤ y ∧ y < 256 := by
          intro y hy
          rcases List.mem_append.mp hy with e | e
          · exact hbb y e
          · rw [List.mem_singleton.mp e]; exact hx'
        have hsc := scan_p (bytesOf s ++ [x]) (by rw [List.length_append, List.length_singleton]; omega) hbx 0
        rw [hl, List.cons_append, scan_cons c _ hc, run_more r [x] hr] at hsc
        rw [hl, List.cons_append]
        refine ev_bind hsc ?_
        have hm : 0 ≤ Int.tmod n (s.size : Int) ∧ Int.tmod n (s.size : Int) < (s.size : Int) := ⟨Int.tmod_nonneg _ hn'.1, Int.tmod_lt_of_pos _ (by omega)⟩
        rw [wrap64_in (x := n) (by omega) (by omega)]
        generalize Int.tmod n (s.size : Int) = q at hm ⊢
        rw [wrap64_in (x := 1 + q) (by omega) (by omega)]
        refine ev_pos (by omega) (ev_pos (by omega) (ev_bind (Ev.now _) ?_))
        obtain ⟨m, hm2⟩ : ∃ m : Nat, (1 + q).toNat = m + 1 := ⟨q.toNat, by omega⟩
        rw [hm2]
        have hcut : bytesOf (s.extract 0 (m + 1)) = c :: r.take m := by
          rw [bs_extract, hl, List.take_succ_cons, List.drop_zero]
        have hsz2 : (s.extract 0 (m + 1)).size = m + 1 := by
          rw [← bs_length, hcut, List.length_cons, List.length_take]; omega
        have hgood : goodP (s.extract 0 (m + 1)) = true := by
          unfold goodP
          rw [hcut, scan_cons c _ hc, run_all _ (fun y hy => hr y (List.mem_of_mem_take hy)), List.length_take, hsz2]
          unfold fin
          rw [if_neg (by omega)]
          simp; omega
        refine ev_bind (good_p _ (by omega)) (ev_pos hgood ?_)
        rw [first_r]
        refine ev_bind (Ev.now _) ?_
        rw [wrap64_in (x := (s.size : Int) + 1) (by omega) (by omega)]
        have hyes : byteP x = true → ((fin (1 + (r.length + run [x]))).1 == ((s.size : Int) + 1)) = ((fin (1 + (r.length + run [x]))).2 == 0) := by
          intro hb
          have : run [x] = 1 := run_all [x] (by simpa using hb)
          rw [this]
          unfold fin
          by_cases h : 1 + (r.length + 1) > 255
          · rw [if_pos h, hsz]
            rw [Bool.eq_iff_iff]; simp; omega
          · rw [if_neg h, hsz]
            rw [Bool.eq_iff_iff]; simp; omega
        have hno : byteP x = false → fin (1 + (r.length + run [x])) = ((s.size : Int), 0) := by
          intro hb
          have : run [x] = 0 := by unfold run; rw [List.takeWhile_cons, if_neg (by rw [hb]; simp)]; rfl
          rw [this]
          unfold fin
          rw [if_neg (by omega), hsz]
          congr 1; omega
        unfold byteP at hyes hno
        by_cases f1 : firstP x = true
        · refine ev_pos f1 (ev_now ?_)
          rw [hyes (by rw [f1]; rfl)]; simp
        · refine ev_neg f1 ?_
          have f1' : firstP x = false := by simpa using f1
          by_cases f2 : x = 45
          · refine ev_pos f2 (ev_now ?_)
            rw [hyes (by rw [f1', decide_eq_true f2]; rfl)]; simp
          · refine ev_neg f2 ?_
            by_cases f3 : x = 95
            · refine ev_pos f3 (ev_now ?_)
              rw [hyes (by rw [f1', decide_eq_true f3]; simp)]; simp
            · refine ev_neg f3 ?_
              by_cases f4 : x = 46
              · refine ev_pos f4 (ev_now ?_)
                rw [hyes (by rw [f1', decide_eq_true f4]; simp)]; simp
              · refine ev_neg f4 ?_
                rw [hno (by rw [f1', decide_eq_false f2, decide_eq_false f3, decide_eq_false f4]; rfl)]
                exact ev_pos rfl (ev_now rfl)
      · rw [show goodP s = false by simpa using h3]
        exact out
end Go.Proofs.Ytcebjhbphcoboaa.Pure
