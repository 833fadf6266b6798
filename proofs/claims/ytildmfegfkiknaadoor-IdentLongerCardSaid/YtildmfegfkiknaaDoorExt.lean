/- Two events that the printed words lack: '[]byte(s)', and '[]byte("..")' of a text that is written out: a row that is read alone (it bears a conversion's mark). -/
import Derived.Test.YtildmfegfkiknaaDoorWWords
import Derived.Test.YtildmfegfkiknaaDoorWRest
import Derived.Lib.ConvBytes
namespace Go.Proofs.YtildmfegfkiknaaDoor.Lab
open Go Go.RowKit Go.Proofs.YtildmfegfkiknaaDoorW.PrintWords

section
variable {P : Program} {ops : Array Oper} {Q : Exit → Act → World → Prop} {rest : List Oper} {a : Act} {W : World} {o : Oper} {src dst e : TypeId} {x : Operand} {N : Tmp}

theorem exec_convert (ho : o.op = .convert src dst x) (v v2 : Value) (hx : a.eval x = v) (w1 : World) (h : (convert src dst v).run P W = .ok v2 w1) :
    (execOp a.eval o).run P W = .ok (.value v2) w1 := by
  unfold execOp
  rw [ho]
  simp only [hx, Sem.run_bind, h, Result.andThen_ok]
  rfl

theorem bytes_event {s : ByteArray} (hgd : o.guard = none) (_hN : o.dst = some N) (ho : o.op = .convert src dst x) (hx : a.eval x = .string s)
    (hs : P.underlying src = some .string) (ht : P.underlying dst = some (.slice e)) (he : P.underlying e = some (.int .u8)) (hsz : s.size ≤ 9223372036854775807)
    (h : ∀ A c w2, (Kd.int .u8).C w2 A (bytesOf s).length (bytesOf s) → (bytesOf s).length ≤ c → Below W.heap.size W w2 → wpList P ops Q rest (a.put o.dst (.slice A (bytesOf s).length c)) w2) :
    wpList P ops Q (o :: rest) a W := by
  refine Kd.event_run hgd (exec_convert ho _ _ hx _ (print_bytes src dst e hs ht he s W)) ?_
  have h2 := h (some ⟨W.heap.size, 0, none⟩) (grownCap W s.size 0 e) (Lib.bytesWorld W e s)
  rw [bytesOf_length] at h2
  exact h2 (Kd.C_of_reads (d := (0 : Int)) (h1 := fun _ => rfl) (bytes_reads W e s hsz)) (grownCap_ge W s.size 0 e) (bytes_below (Below.refl _ _) (Nat.le_refl _) e s)

/-- The world behind a literal's conversion. -/
def litWorld (W : World) (e : TypeId) (cs : Array Value) : World := (W.alloc (.cells cs e)).freeze ⟨W.heap.size, cs.size, none⟩ 1
theorem lit_size (W : World) (e : TypeId) (cs : Array Value) : (litWorld W e cs).heap.size = W.heap.size + 1 := by
  simp [litWorld, World.freeze, World.alloc, -World.alloc_eq]
theorem lit_old (W : World) (e : TypeId) (cs : Array Value) (j : Nat) (hj : j < W.heap.size) : (litWorld W e cs).heap[j]? = W.heap[j]? := by
  have h1 : W.heap.size ≠ j := by omega
  simp [litWorld, World.freeze, World.alloc, -World.alloc_eq, Array.getElem?_modify, Array.getElem?_push, h1, Ne.symm h1]
theorem lit_new (W : World) (e : TypeId) (cs : Array Value) : (litWorld W e cs).heap[W.heap.size]? = some (.cells cs e (cs.size, cs.size + 1)) := by
  simp [litWorld, World.freeze, World.alloc, -World.alloc_eq]
  rw [Array.getElem_modify_self]
  simp
theorem run_convert_lit (src e : TypeId) (cs : Array Value) (n c : Nat) (hs : P.underlying src = some (.slice e)) (he : P.underlying e = some (.int .u8)) (W : World) :
    (convert src src (.slice (some ⟨W.heap.size, 0, none⟩) n c)).run P (W.alloc (.cells cs e)) = .ok (.slice (some ⟨W.heap.size, 0, none⟩) n c) (litWorld W e cs) := by
  have hsh : (W.alloc (.cells cs e)).shape? W.heap.size = some (e, cs.size) := by
    simp [World.shape?, World.alloc, -World.alloc_eq]
  simp [convert, run_underlying hs, run_underlying he, markStringish, hsh, litWorld, Result.andThen]

/-- The cells of numbers that are written out. -/
theorem lit_event {xs : List Int} {cs : Array Value} (hgd : o.guard = none) (_hN : o.dst = some N) (ho : o.op = .convert src src x) (hx : a.eval x = .slice (some ⟨W.heap.size, 0, none⟩) xs.length xs.length)
    (hs : P.underlying src = some (.slice e)) (he : P.underlying e = some (.int .u8)) (hcs : cs.toList = xs.map (Value.int .u8)) (hsz : xs.length ≤ 9223372036854775807)
    (h : ∀ A c w2, (Kd.int .u8).C w2 A xs.length xs → xs.length ≤ c → Below W.heap.size W w2 → wpList P ops Q rest (a.put o.dst (.slice A xs.length c)) w2) :
    wpList P ops Q (o :: rest) a (W.alloc (.cells cs e)) := by
  refine Kd.event_run hgd (exec_convert ho _ _ hx _ (run_convert_lit src e cs _ _ hs he W)) ?_
  refine h (some ⟨W.heap.size, 0, none⟩) xs.length (litWorld W e cs) (Kd.C_of_reads (d := (0 : Int)) (h1 := fun _ => rfl) ⟨rfl, hsz, fun _ => ⟨_, rfl, fun j hj => ?_⟩⟩) (Nat.le_refl _) ⟨rfl, rfl, rfl, by rw [lit_size]; omega, fun k hk => lit_old W e cs k hk⟩
  rw [add_plain]
  have hl : cs.size = xs.length := by rw [← Array.length_toList, hcs, List.length_map]
  have h3 : cs[j]? = some (.int .u8 (xs.getD j 0)) := by
    rw [← Array.getElem?_toList, hcs, List.getElem?_map, List.getElem?_eq_getElem hj]
    simp [List.getD_eq_getElem?_getD, List.getElem?_eq_getElem hj]
  simp [World.cell?, lit_new, h3]
end
end Go.Proofs.YtildmfegfkiknaaDoor.Lab
