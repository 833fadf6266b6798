/- CertTexts: the pure statement. -/
import Derived.Test.YtcebjhbphcoboaaCn7
import Derived.Test.YtcebjhbphcoboaaCm
import Derived.KernelRfl
namespace Go.Proofs.Ytcebjhbphcoboaa.Pure
open Go Go.RowKit Go.Proofs.Ytcebjhbphcoboaa.C Go.Proofs.YtcebjhbphcoboaaW.PrintWords Go.Proofs.YtcebjhbphcoboaaW.PrintLast Go.Proofs.Ytcebjhbphcoboaa.Aid Go.Proofs.Ytcebjhbphcoboaa.Crt
theorem awake23_ev : Ev (fun k => ferrulelaw23_awake.f k) true := by
  have h : ferrulelaw23_awake.f 40 = some true := by kernel_rfl
  exact Ev.of ferrulelaw23_awake.mono (k := 40) h
theorem CertTexts : ferrulelaw23_CertTexts.Pure := by
  intro core steps _ _
  suffices h : Ev (fun k => ferrulelaw23_CertTexts.f k core steps) true from h.rounds
  unfold ferrulelaw23_CertTexts.f
  refine ev_bind awake23_ev (ev_pos rfl (ev_bind (few_ev core steps) ?_))
  by_cases hf : fewP core steps = true
  · refine ev_pos hf ?_
    have hf' := hf
    unfold fewP at hf'
    simp only [Bool.and_eq_true, decide_eq_true_eq, List.all_eq_true] at hf'
    obtain ⟨⟨hc, hs⟩, hC⟩ := hf'
    unfold cert_Bytes.f
    rw [if_pos hf]
    by_cases hg : goodG core steps = true
    · rw [if_pos hg]
      refine ev_bind (Ev.now _) (ev_bind (good_ev core steps hc hs hC) (ev_bind (refGood_ev core steps hc hs hC) ?_))
      refine ev_neg (by simp) (ev_bind (refGood_ev core steps hc hs hC) (ev_pos hg ?_))
      have hB := bytes_len core steps hc hs hC
      unfold cert_Read.f
      dsimp only
      rw [if_pos ⟨by omega, .inr (by unfold bytesP; simp)⟩, read_back core steps hg hc hs hC]
      refine ev_bind (Ev.now _) (ev_pos rfl (ev_bind (refBytes_ev core steps hg hc hs hC) (ev_pos rfl (ev_pos rfl (ev_pos rfl ?_)))))
      exact ev_bind (sameC_ev core steps hc hs hC) (Ev.now _)
    · rw [if_neg hg]
      refine ev_bind (Ev.now _) (ev_bind (good_ev core steps hc hs hC) (ev_bind (refGood_ev core steps hc hs hC) ?_))
      exact ev_neg (by simp) (ev_bind (refGood_ev core steps hc hs hC) (ev_neg hg (ev_pos rfl (ev_now rfl))))
  · exact ev_neg hf (Ev.now _)
end Go.Proofs.Ytcebjhbphcoboaa.Pure
