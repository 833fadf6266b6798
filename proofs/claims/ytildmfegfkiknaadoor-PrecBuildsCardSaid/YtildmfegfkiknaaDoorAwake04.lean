/- What the statements of layer 4 ask first. -/
import Derived.Test.YtildmfegfkiknaaDoorAid
import Derived.Test.YtildmfegfkiknaaDoorXn21
import Derived.KernelRfl
namespace Go.Proofs.YtildmfegfkiknaaDoor.Awake04
open Go.RowKit Go.Proofs.YtildmfegfkiknaaDoor.X Go.Proofs.YtildmfegfkiknaaDoorW.PrintWords
theorem awake_ev : Ev (fun k => ferrulelaw04_awake.f k) true := Ev.of ferrulelaw04_awake.mono (k := 40) (by kernel_rfl)
end Go.Proofs.YtildmfegfkiknaaDoor.Awake04
