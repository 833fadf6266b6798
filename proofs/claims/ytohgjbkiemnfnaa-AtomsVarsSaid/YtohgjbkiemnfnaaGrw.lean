/- Regions that draw their order and whose calls hand back one value each and make only new blocks: one walk of the text's order serves every order. Over the kit's class of worlds (Derived/Deep/Quiet.lean). No program in sight. -/
import Derived.Test.YtohgjbkiemnfnaaHlp
import Derived.Deep.QuietTactic
import Derived.BigQuiet
namespace Go.Proofs.Ytohgjbkiemnfnaa.Hlp
open Go Go.RowKit Go.Proofs.YtohgjbkiemnfnaaW.PrintWords
/-- A world that has all blocks of w as they are. -/
def GW (w : World) := {W : World // Below w.heap.size w W}
instance gw_nonempty (w : World) : Nonempty (GW w) := ⟨⟨w, Below.refl _ _⟩⟩
theorem GW.trans {w : World} (u : GW w) {W : World} (h : Below u.1.heap.size u.1 W) : ∃ u' : GW w, W = u'.1 := ⟨⟨W, u.2.trans (h.mono u.2.size)⟩, rfl⟩
theorem GW.below {w0 w : World} (h : Below w0.heap.size w0 w) (u : GW w) : Below w0.heap.size w0 u.1 := h.trans (u.2.mono h.size)
theorem GW.cell {w : World} {a : Addr} {v : Value} (h : w.cell? a = some v) (u : GW w) : u.1.cell? a = some v := cell_below h u.2
theorem GW.blk {w : World} {g : Nat} {o : Obj} (h : w.heap[g]? = some o) (u : GW w) : u.1.heap[g]? = some o := blk_below h u.2
theorem Calls.grown {P : Program} {f : FuncId} {args : Array Value} {w : World} (u : GW w) {v : Value} (h : Calls P f args u.1 fun e w' => e = .returned v ∧ Below u.1.heap.size u.1 w') :
    Calls P f args u.1 fun e w'' => e = .returned v ∧ ∃ u' : GW w, w'' = u'.1 := h.mono fun _ _ ⟨he, hb⟩ => ⟨he, u.trans hb⟩
theorem wp_region_grown {P : Program} {id : Nat} {Q : Exit → Act → World → Prop} {a : Act} {w : World} {l : List Oper} (hm : P.follows .mixedOrders = true) (hB : Region.lexB .any l.toArray = true)
    (h : wpQuiet P l.toArray (fun w' => ∃ u : GW w, w' = u.1) (fun a' => ∀ w', (∃ u : GW w, w' = u.1) → Q .normal a' w') l a) : (Code.region id l.toArray true).wp P Q a w :=
  wp_region_quiet (C := fun w' => ∃ u : GW w, w' = u.1) hm hB ⟨⟨w.drew, pw_below_drewN (Below.refl _ _) 1⟩, rfl⟩ (by simpa using h)
end Go.Proofs.Ytohgjbkiemnfnaa.Hlp
