/- What a world must bear for the library's writing of numbers: its table of powers of ten. It stays behind whatever is made. -/
import Derived.Test.YtildmfegfkiknaaDoorExt
import Derived.Lib.LaidTab
import Derived.Lib.ItoaNum
import Derived.Test.YtildmfegfkiknaaDoorProg
namespace Go.Proofs.YtildmfegfkiknaaDoor
open Go Go.RowKit Go.Proofs.YtildmfegfkiknaaDoorW.PrintWords
def Tab (w : World) : Prop := Lib.TabIs Tryd.prog w "internal/strconv.uint64pow10" .u64 Lib.pow10Tab
theorem Tab.below {w W : World} (h : Tab w) (hb : Below w.heap.size w W) : Tab W := by
  unfold Tab Lib.TabIs World.var? at *
  cases hg : (Tryd.prog.globalNamed "internal/strconv.uint64pow10") with
  | none => rw [hg] at h; simp at h
  | some g =>
    rw [hg] at h
    simp only [Option.bind_some] at h ⊢
    cases hx : w.heap[g]? with
    | none => rw [hx] at h; simp at h
    | some o => rw [hb.block g (blk_lt hx), hx]; rw [hx] at h; exact h
theorem tB {w W0 W : World} (h : Tab w) (hb : Aside0 (Below w.heap.size w W0)) (f : Below w.heap.size w W0 → Below w.heap.size w W := by intro h_; repeat (first | (with_reducible first | exact h_ | apply below_alloc | apply pw_below_drewN | apply below_drew1) | refine below_set ?_ (Aside0.out (by assumption)) | exact h_)) : Tab W := h.below (f hb.out)
end Go.Proofs.YtildmfegfkiknaaDoor
