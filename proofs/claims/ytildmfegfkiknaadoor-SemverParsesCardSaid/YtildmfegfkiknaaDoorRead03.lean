/- The version that a whole text is: the program's function and the document's come to the same. -/
import Derived.Test.YtildmfegfkiknaaDoorRefParse03
import Derived.Test.YtildmfegfkiknaaDoorXn35
import Derived.Test.YtildmfegfkiknaaDoorXn36
namespace Go.Proofs.YtildmfegfkiknaaDoor.Read03
open Go.RowKit Go.Proofs.YtildmfegfkiknaaDoorW.PrintWords Go.Proofs.YtildmfegfkiknaaDoorW.PrintMore Go.Proofs.YtildmfegfkiknaaDoor.Aid Go.Proofs.YtildmfegfkiknaaDoor.Digits Go.Proofs.YtildmfegfkiknaaDoor.X Go.Proofs.YtildmfegfkiknaaDoor.Row02 Go.Proofs.YtildmfegfkiknaaDoor.Parse03 Go.Proofs.YtildmfegfkiknaaDoor.RefParse03

def readP (b : List Int) : Ver := if (p0 b 0).2.2.2.2.2.2 = 0 then (if (p0 b 0).2.2.2.2.2.1 < (b.length : Int) then no (p0 b 0).2.2.2.2.2.1 13 else ((p0 b 0).1, (p0 b 0).2.1, (p0 b 0).2.2.1, (p0 b 0).2.2.2.1, (p0 b 0).2.2.2.2.1, 0, 0)) else p0 b 0
theorem parse0 (b : List Int) : parseP b 0 = p0 b 0 := by
  unfold parseP
  rw [if_neg (by omega)]; rfl
theorem read_ev (b : List Int) (hb : ∀ x ∈ b, 0 ≤ x ∧ x < 256) (hl : b.length ≤ 1000000000) : Ev (fun k => semver_Read.f k (strOfNums b)) (readP b) := by
  have hsz := s_size b hb
  unfold semver_Read.f readP
  refine ev_pos (by omega) ?_
  rw [bs_ofNums b hb, hsz]
  have hp := Parse03.parse_ev b hb hl 0
  rw [parse0] at hp
  refine ev_bind hp ?_
  by_cases h1 : (p0 b 0).2.2.2.2.2.2 = 0
  · rw [if_pos h1]
    refine ev_pos h1 (Ev.step (fun k => by rw [semver_Read.j0]) ?_)
    by_cases h2 : (p0 b 0).2.2.2.2.2.1 < (b.length : Int)
    · rw [if_pos h2, decide_eq_true h2]
      exact ev_pos rfl (Ev.now _)
    · rw [if_neg h2, decide_eq_false h2]
      refine ev_neg (by simp) (ev_pos h1 (ev_now ?_))
      rw [h1]
  · rw [if_neg h1]
    refine ev_neg h1 (Ev.step (fun k => by rw [semver_Read.j0]) (ev_neg (by simp) (ev_neg h1 (Ev.now _))))
theorem refread_ev (b : List Int) (hb : ∀ x ∈ b, 0 ≤ x ∧ x < 256) (hl : b.length ≤ 1000000000) : Ev (fun k => ferruleref03_Read.f k (strOfNums b)) (readP b) := by
  have hsz := s_size b hb
  unfold ferruleref03_Read.f readP
  rw [hsz]
  have hp := refparse_ev b hb hl 0
  rw [parse0] at hp
  refine ev_bind hp ?_
  by_cases h1 : (p0 b 0).2.2.2.2.2.2 = 0
  · by_cases h2 : (p0 b 0).2.2.2.2.2.1 < (b.length : Int)
    · simp only [if_pos h1, if_pos h2]
      exact Ev.now _
    · simp only [if_pos h1, if_neg h2]
      refine ev_now ?_
      rw [h1]
  · simp only [if_neg h1]
    exact Ev.now _
end Go.Proofs.YtildmfegfkiknaaDoor.Read03
