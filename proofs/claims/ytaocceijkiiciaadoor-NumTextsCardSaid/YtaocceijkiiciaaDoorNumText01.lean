/- What the program's own writer of numbers comes to. -/
import Derived.Test.YtaocceijkiiciaaDoorText01
import Derived.Test.YtaocceijkiiciaaDoorXn8
namespace Go.Proofs.YtaocceijkiiciaaDoor.Text01
open Go.RowKit Go.Proofs.YtaocceijkiiciaaDoor.X Go.Proofs.YtaocceijkiiciaaDoorW.PrintWords Go.Proofs.YtaocceijkiiciaaDoorW.PrintLast
theorem text_some (a : Int) (h0 : 0 ≤ a) (h : a < 18446744073709551616) : num_Text.f a = some (txt a) := by
  have e : num_Text.f a = ((if (10 : Int) = 10 ∧ 0 ≤ a ∧ a < 18446744073709551616 then some (txt a) else none).bind fun t => some t).bind fun t => some t := rfl
  rw [e, if_pos ⟨rfl, h0, h⟩]; rfl
end Go.Proofs.YtaocceijkiiciaaDoor.Text01
