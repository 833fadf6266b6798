/- What the statements of layer 2 ask first. -/
import Derived.Test.YtildmfegfkiknaaDoorAid
import Derived.Test.YtildmfegfkiknaaDoorXn14
import Derived.KernelRfl
namespace Go.Proofs.YtildmfegfkiknaaDoor.Awake02
open Go.RowKit Go.Proofs.YtildmfegfkiknaaDoor.X Go.Proofs.YtildmfegfkiknaaDoorW.PrintWords
theorem awake_ev : Ev (fun k => ferrulelaw02_awake.f k) true := Ev.of ferrulelaw02_awake.mono (k := 40) (by kernel_rfl)
end Go.Proofs.YtildmfegfkiknaaDoor.Awake02
