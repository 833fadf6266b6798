/- What the statements of layer 3 ask first. -/
import Derived.Test.YtildmfegfkiknaaDoorAid
import Derived.Test.YtildmfegfkiknaaDoorXn32
import Derived.KernelRfl
namespace Go.Proofs.YtildmfegfkiknaaDoor.Awake03
open Go.RowKit Go.Proofs.YtildmfegfkiknaaDoor.X Go.Proofs.YtildmfegfkiknaaDoorW.PrintWords
theorem awake_ev : Ev (fun k => ferrulelaw03_awake.f k) true := Ev.of ferrulelaw03_awake.mono (k := 40) (by kernel_rfl)
end Go.Proofs.YtildmfegfkiknaaDoor.Awake03
