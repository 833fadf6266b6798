/-
  No cell of these rows narrows 'for every input' (looked for: loops, veiled, ifaces, maps, wideKeys, modest, calm, conditions, laid).
  DERIVED. THE GIVEN ROWS OF THIS SEAT. 9 by the template 'for every input the law returns true; each argument reads behind the call as it read before'; 0 by the template 'total and deterministic' (their statements: YtcebjhbphcoboaaTotals.lean).
  GIVEN WITH THE SEED: the statements are not yours to turn. If you find one false, say at which input.
  Laid BY PROGRAM, IN A SANDBOX (cutbox-rows.mjs): the forced cells as the released guide's own fill.sh prints them over the translation a5485b0c992304ac… (all of the seat's roots in one cut). By AI agents, Wed Nov 11 2026. No macro, syntax, notation, axiom, sorry.
-/
import Derived.Test.YtcebjhbphcoboaaChecked
import GoSem.Claim
import GoSem.ClaimJoined
import GoSem.ClaimMapViews
import Derived.JoinedTies
import Derived.KernelRfl
namespace Go.Proofs.Ytcebjhbphcoboaa
/- THE CELL 'sum', in the pinned program and in every row, IS THE sha256 OF THE DUMP (.gsa) THAT YtcebjhbphcoboaaProg.lean LOADS. Nothing in Lean hashes anything: it is a label: what it is worth is what the hold of that sum in a sandbox is worth. -/
noncomputable def Try.pinned : Pinned := { name := "ytcebjhbphcoboaa", sum := "a5485b0c992304acdcee4f1277302295f44b5f5be075d7b1270179f11358e73d", checked := Try.checked }
namespace Rows
def none {H : Type} : Left H := { results := [], args := [] }

/-- 'ferrulelaw08.NameScans': WHATEVER THE INPUT: true; the input reads as it did. -/
def nameScansSpec : ChangeSpec := { name := "nameScans", fn := fun _ => fun
  | [d1, d2] => { results := [.lit (.bool true)], args := [d1, d2] }
  | _ => none }
def nameScansRow : OpenClaim := { program := "ytcebjhbphcoboaa", sum := "a5485b0c992304acdcee4f1277302295f44b5f5be075d7b1270179f11358e73d", func := "ferrule/ferrulelaw08.NameScans", spec := "nameScans", inPlace := ["internal/bytealg.abigen_runtime_cmpstring"], unfollowed := true, recurses := true, apart := false }
def NameScansSaid : Prop := nameScansRow.holds Try.pinned (OpenSpec.ofChange nameScansSpec)

/-- ITS FALSE NEIGHBOUR: 'it returns false'. Refute it at one input. -/
def nameScansWrong : ChangeSpec := { name := "nameScans", fn := fun _ => fun
  | [d1, d2] => { results := [.lit (.bool false)], args := [d1, d2] }
  | _ => none }
def NameScansWrongFalsely : Prop := nameScansRow.holds Try.pinned (OpenSpec.ofChange nameScansWrong)

/-- 'ferrulelaw08.NameMost': WHATEVER THE INPUT: true; the input reads as it did. -/
def nameMostSpec : ChangeSpec := { name := "nameMost", fn := fun _ => fun
  | [d] => { results := [.lit (.bool true)], args := [d] }
  | _ => none }
def nameMostRow : OpenClaim := { program := "ytcebjhbphcoboaa", sum := "a5485b0c992304acdcee4f1277302295f44b5f5be075d7b1270179f11358e73d", func := "ferrule/ferrulelaw08.NameMost", spec := "nameMost", inPlace := ["internal/bytealg.abigen_runtime_cmpstring"], unfollowed := true, recurses := true, apart := false }
def NameMostSaid : Prop := nameMostRow.holds Try.pinned (OpenSpec.ofChange nameMostSpec)

/-- ITS FALSE NEIGHBOUR: 'it returns false'. Refute it at one input. -/
def nameMostWrong : ChangeSpec := { name := "nameMost", fn := fun _ => fun
  | [d] => { results := [.lit (.bool false)], args := [d] }
  | _ => none }
def NameMostWrongFalsely : Prop := nameMostRow.holds Try.pinned (OpenSpec.ofChange nameMostWrong)

/-- 'ferrulelaw08.NameCuts': WHATEVER THE INPUT: true; the input reads as it did. -/
def nameCutsSpec : ChangeSpec := { name := "nameCuts", fn := fun _ => fun
  | [d1, d2, d3] => { results := [.lit (.bool true)], args := [d1, d2, d3] }
  | _ => none }
def nameCutsRow : OpenClaim := { program := "ytcebjhbphcoboaa", sum := "a5485b0c992304acdcee4f1277302295f44b5f5be075d7b1270179f11358e73d", func := "ferrule/ferrulelaw08.NameCuts", spec := "nameCuts", inPlace := ["internal/bytealg.abigen_runtime_cmpstring"], unfollowed := true, recurses := true, apart := false }
def NameCutsSaid : Prop := nameCutsRow.holds Try.pinned (OpenSpec.ofChange nameCutsSpec)

/-- ITS FALSE NEIGHBOUR: 'it returns false'. Refute it at one input. -/
def nameCutsWrong : ChangeSpec := { name := "nameCuts", fn := fun _ => fun
  | [d1, d2, d3] => { results := [.lit (.bool false)], args := [d1, d2, d3] }
  | _ => none }
def NameCutsWrongFalsely : Prop := nameCutsRow.holds Try.pinned (OpenSpec.ofChange nameCutsWrong)

/-- 'ferrulelaw08.NameTables': WHATEVER THE INPUT: true; the input reads as it did. -/
def nameTablesSpec : ChangeSpec := { name := "nameTables", fn := fun _ => fun
  | [d1, d2] => { results := [.lit (.bool true)], args := [d1, d2] }
  | _ => none }
def nameTablesRow : OpenClaim := { program := "ytcebjhbphcoboaa", sum := "a5485b0c992304acdcee4f1277302295f44b5f5be075d7b1270179f11358e73d", func := "ferrule/ferrulelaw08.NameTables", spec := "nameTables", inPlace := ["internal/bytealg.abigen_runtime_cmpstring"], unfollowed := true, recurses := true, apart := false }
def NameTablesSaid : Prop := nameTablesRow.holds Try.pinned (OpenSpec.ofChange nameTablesSpec)

/-- ITS FALSE NEIGHBOUR: 'it returns false'. Refute it at one input. -/
def nameTablesWrong : ChangeSpec := { name := "nameTables", fn := fun _ => fun
  | [d1, d2] => { results := [.lit (.bool false)], args := [d1, d2] }
  | _ => none }
def NameTablesWrongFalsely : Prop := nameTablesRow.holds Try.pinned (OpenSpec.ofChange nameTablesWrong)

/-- 'ferrulelaw23.CertTexts': WHATEVER THE INPUT: true; the input reads as it did. -/
def certTextsSpec : ChangeSpec := { name := "certTexts", fn := fun _ => fun
  | [d] => { results := [.lit (.bool true)], args := [d] }
  | _ => none }
def certTextsRow : OpenClaim := { program := "ytcebjhbphcoboaa", sum := "a5485b0c992304acdcee4f1277302295f44b5f5be075d7b1270179f11358e73d", func := "ferrule/ferrulelaw23.CertTexts", spec := "certTexts", unfollowed := true, recurses := true, apart := false }
def CertTextsSaid : Prop := certTextsRow.holds Try.pinned (OpenSpec.ofChange certTextsSpec)

/-- ITS FALSE NEIGHBOUR: 'it returns false'. Refute it at one input. -/
def certTextsWrong : ChangeSpec := { name := "certTexts", fn := fun _ => fun
  | [d] => { results := [.lit (.bool false)], args := [d] }
  | _ => none }
def CertTextsWrongFalsely : Prop := certTextsRow.holds Try.pinned (OpenSpec.ofChange certTextsWrong)

/-- 'ferrulelaw23.CertLonger': WHATEVER THE INPUT: true; the input reads as it did. -/
def certLongerSpec : ChangeSpec := { name := "certLonger", fn := fun _ => fun
  | [d1, d2, d3] => { results := [.lit (.bool true)], args := [d1, d2, d3] }
  | _ => none }
def certLongerRow : OpenClaim := { program := "ytcebjhbphcoboaa", sum := "a5485b0c992304acdcee4f1277302295f44b5f5be075d7b1270179f11358e73d", func := "ferrule/ferrulelaw23.CertLonger", spec := "certLonger", unfollowed := true, recurses := true, apart := false }
def CertLongerSaid : Prop := certLongerRow.holds Try.pinned (OpenSpec.ofChange certLongerSpec)

/-- ITS FALSE NEIGHBOUR: 'it returns false'. Refute it at one input. -/
def certLongerWrong : ChangeSpec := { name := "certLonger", fn := fun _ => fun
  | [d1, d2, d3] => { results := [.lit (.bool false)], args := [d1, d2, d3] }
  | _ => none }
def CertLongerWrongFalsely : Prop := certLongerRow.holds Try.pinned (OpenSpec.ofChange certLongerWrong)

/-- 'ferrulelaw15.OrderSnaps': WHATEVER THE INPUT: true; the input reads as it did. -/
def orderSnapsSpec : ChangeSpec := { name := "orderSnaps", fn := fun _ => fun
  | [d1, d2] => { results := [.lit (.bool true)], args := [d1, d2] }
  | _ => none }
def orderSnapsRow : OpenClaim := { program := "ytcebjhbphcoboaa", sum := "a5485b0c992304acdcee4f1277302295f44b5f5be075d7b1270179f11358e73d", func := "ferrule/ferrulelaw15.OrderSnaps", spec := "orderSnaps", unfollowed := true, recurses := true, apart := false }
def OrderSnapsSaid : Prop := orderSnapsRow.holds Try.pinned (OpenSpec.ofChange orderSnapsSpec)

/-- ITS FALSE NEIGHBOUR: 'it returns false'. Refute it at one input. -/
def orderSnapsWrong : ChangeSpec := { name := "orderSnaps", fn := fun _ => fun
  | [d1, d2] => { results := [.lit (.bool false)], args := [d1, d2] }
  | _ => none }
def OrderSnapsWrongFalsely : Prop := orderSnapsRow.holds Try.pinned (OpenSpec.ofChange orderSnapsWrong)

/-- 'ferrulelaw15.OrderPlays': WHATEVER THE INPUT: true; the input reads as it did. -/
def orderPlaysSpec : ChangeSpec := { name := "orderPlays", fn := fun _ => fun
  | [d1, d2] => { results := [.lit (.bool true)], args := [d1, d2] }
  | _ => none }
def orderPlaysRow : OpenClaim := { program := "ytcebjhbphcoboaa", sum := "a5485b0c992304acdcee4f1277302295f44b5f5be075d7b1270179f11358e73d", func := "ferrule/ferrulelaw15.OrderPlays", spec := "orderPlays", unfollowed := true, recurses := true, apart := false }
def OrderPlaysSaid : Prop := orderPlaysRow.holds Try.pinned (OpenSpec.ofChange orderPlaysSpec)

/-- ITS FALSE NEIGHBOUR: 'it returns false'. Refute it at one input. -/
def orderPlaysWrong : ChangeSpec := { name := "orderPlays", fn := fun _ => fun
  | [d1, d2] => { results := [.lit (.bool false)], args := [d1, d2] }
  | _ => none }
def OrderPlaysWrongFalsely : Prop := orderPlaysRow.holds Try.pinned (OpenSpec.ofChange orderPlaysWrong)

/-- 'ferrulelaw15.OrderImplies': WHATEVER THE INPUT: true; the input reads as it did. -/
def orderImpliesSpec : ChangeSpec := { name := "orderImplies", fn := fun _ => fun
  | [d1, d2, d3, d4] => { results := [.lit (.bool true)], args := [d1, d2, d3, d4] }
  | _ => none }
def orderImpliesRow : OpenClaim := { program := "ytcebjhbphcoboaa", sum := "a5485b0c992304acdcee4f1277302295f44b5f5be075d7b1270179f11358e73d", func := "ferrule/ferrulelaw15.OrderImplies", spec := "orderImplies", unfollowed := true, recurses := true, apart := false }
def OrderImpliesSaid : Prop := orderImpliesRow.holds Try.pinned (OpenSpec.ofChange orderImpliesSpec)

/-- ITS FALSE NEIGHBOUR: 'it returns false'. Refute it at one input. -/
def orderImpliesWrong : ChangeSpec := { name := "orderImplies", fn := fun _ => fun
  | [d1, d2, d3, d4] => { results := [.lit (.bool false)], args := [d1, d2, d3, d4] }
  | _ => none }
def OrderImpliesWrongFalsely : Prop := orderImpliesRow.holds Try.pinned (OpenSpec.ofChange orderImpliesWrong)

/- THE SECOND FORM. 'bulk': how many values and letters a reading holds, each counted each time it is reached (what is shared counts as often as it is met; a slice's spare places count too). A statement '..UptoSaid' is the law's where the arguments, and the package variables that the reading takes, are together of bulk at most 1048576: NARROWER than '..Said'. Prove '..Said' where nothing that the law and all that it calls make is longer than what came in: it says more and counts as full. Else prove '..UptoSaid'. A law counts once. -/
mutual
def uptoBulk {H : Type} : DataW H → Nat
  | .lit (.string bytes) => bytes.length + 1
  | .lit _ => 1
  | .nil => 1
  | .ptr d => uptoBulk d + 1
  | .slice elems spare => uptoBulkAll elems + uptoBulkAll spare + 1
  | .agg parts => uptoBulkAll parts + 1
  | .iface _ d => uptoBulk d + 1
  | .map entries => uptoBulkEntries entries + 1
  | .held _ => 1
def uptoBulkAll {H : Type} : List (DataW H) → Nat
  | [] => 0
  | d :: r => uptoBulk d + uptoBulkAll r
def uptoBulkEntries {H : Type} : List (Lit × DataW H) → Nat
  | [] => 0
  | x :: r => uptoBulkEntry x + uptoBulkEntries r
def uptoBulkEntry {H : Type} : Lit × DataW H → Nat
  | (.string bytes, d) => bytes.length + uptoBulk d + 1
  | (_, d) => uptoBulk d + 1
 end
def uptoSmall : (H : Type) → List (DataW H) → Bool := fun _ ds => decide (uptoBulkAll ds ≤ 1048576)
def OpenSpec.upto (s : _root_.Go.ChangeSpec) : _root_.Go.OpenSpec := { _root_.Go.OpenSpec.ofChange s with cond := some uptoSmall }

/-- 'ferrulelaw08.NameScans', WHERE WHAT IT READS IS OF BULK AT MOST 1048576: true; the input reads as it did. -/
def nameScansUptoRow : OpenClaim := { program := "ytcebjhbphcoboaa", sum := "a5485b0c992304acdcee4f1277302295f44b5f5be075d7b1270179f11358e73d", func := "ferrule/ferrulelaw08.NameScans", spec := "nameScans", inPlace := ["internal/bytealg.abigen_runtime_cmpstring"], unfollowed := true, recurses := true, apart := false, narrowed := true }
def NameScansUptoSaid : Prop := nameScansUptoRow.holds Try.pinned (OpenSpec.upto nameScansSpec)

/-- 'ferrulelaw08.NameMost', WHERE WHAT IT READS IS OF BULK AT MOST 1048576: true; the input reads as it did. -/
def nameMostUptoRow : OpenClaim := { program := "ytcebjhbphcoboaa", sum := "a5485b0c992304acdcee4f1277302295f44b5f5be075d7b1270179f11358e73d", func := "ferrule/ferrulelaw08.NameMost", spec := "nameMost", inPlace := ["internal/bytealg.abigen_runtime_cmpstring"], unfollowed := true, recurses := true, apart := false, narrowed := true }
def NameMostUptoSaid : Prop := nameMostUptoRow.holds Try.pinned (OpenSpec.upto nameMostSpec)

/-- 'ferrulelaw08.NameCuts', WHERE WHAT IT READS IS OF BULK AT MOST 1048576: true; the input reads as it did. -/
def nameCutsUptoRow : OpenClaim := { program := "ytcebjhbphcoboaa", sum := "a5485b0c992304acdcee4f1277302295f44b5f5be075d7b1270179f11358e73d", func := "ferrule/ferrulelaw08.NameCuts", spec := "nameCuts", inPlace := ["internal/bytealg.abigen_runtime_cmpstring"], unfollowed := true, recurses := true, apart := false, narrowed := true }
def NameCutsUptoSaid : Prop := nameCutsUptoRow.holds Try.pinned (OpenSpec.upto nameCutsSpec)

/-- 'ferrulelaw08.NameTables', WHERE WHAT IT READS IS OF BULK AT MOST 1048576: true; the input reads as it did. -/
def nameTablesUptoRow : OpenClaim := { program := "ytcebjhbphcoboaa", sum := "a5485b0c992304acdcee4f1277302295f44b5f5be075d7b1270179f11358e73d", func := "ferrule/ferrulelaw08.NameTables", spec := "nameTables", inPlace := ["internal/bytealg.abigen_runtime_cmpstring"], unfollowed := true, recurses := true, apart := false, narrowed := true }
def NameTablesUptoSaid : Prop := nameTablesUptoRow.holds Try.pinned (OpenSpec.upto nameTablesSpec)

/-- 'ferrulelaw23.CertTexts', WHERE WHAT IT READS IS OF BULK AT MOST 1048576: true; the input reads as it did. -/
def certTextsUptoRow : OpenClaim := { program := "ytcebjhbphcoboaa", sum := "a5485b0c992304acdcee4f1277302295f44b5f5be075d7b1270179f11358e73d", func := "ferrule/ferrulelaw23.CertTexts", spec := "certTexts", unfollowed := true, recurses := true, apart := false, narrowed := true }
def CertTextsUptoSaid : Prop := certTextsUptoRow.holds Try.pinned (OpenSpec.upto certTextsSpec)

/-- 'ferrulelaw23.CertLonger', WHERE WHAT IT READS IS OF BULK AT MOST 1048576: true; the input reads as it did. -/
def certLongerUptoRow : OpenClaim := { program := "ytcebjhbphcoboaa", sum := "a5485b0c992304acdcee4f1277302295f44b5f5be075d7b1270179f11358e73d", func := "ferrule/ferrulelaw23.CertLonger", spec := "certLonger", unfollowed := true, recurses := true, apart := false, narrowed := true }
def CertLongerUptoSaid : Prop := certLongerUptoRow.holds Try.pinned (OpenSpec.upto certLongerSpec)

/-- 'ferrulelaw15.OrderSnaps', WHERE WHAT IT READS IS OF BULK AT MOST 1048576: true; the input reads as it did. -/
def orderSnapsUptoRow : OpenClaim := { program := "ytcebjhbphcoboaa", sum := "a5485b0c992304acdcee4f1277302295f44b5f5be075d7b1270179f11358e73d", func := "ferrule/ferrulelaw15.OrderSnaps", spec := "orderSnaps", unfollowed := true, recurses := true, apart := false, narrowed := true }
def OrderSnapsUptoSaid : Prop := orderSnapsUptoRow.holds Try.pinned (OpenSpec.upto orderSnapsSpec)

/-- 'ferrulelaw15.OrderPlays', WHERE WHAT IT READS IS OF BULK AT MOST 1048576: true; the input reads as it did. -/
def orderPlaysUptoRow : OpenClaim := { program := "ytcebjhbphcoboaa", sum := "a5485b0c992304acdcee4f1277302295f44b5f5be075d7b1270179f11358e73d", func := "ferrule/ferrulelaw15.OrderPlays", spec := "orderPlays", unfollowed := true, recurses := true, apart := false, narrowed := true }
def OrderPlaysUptoSaid : Prop := orderPlaysUptoRow.holds Try.pinned (OpenSpec.upto orderPlaysSpec)

/-- 'ferrulelaw15.OrderImplies', WHERE WHAT IT READS IS OF BULK AT MOST 1048576: true; the input reads as it did. -/
def orderImpliesUptoRow : OpenClaim := { program := "ytcebjhbphcoboaa", sum := "a5485b0c992304acdcee4f1277302295f44b5f5be075d7b1270179f11358e73d", func := "ferrule/ferrulelaw15.OrderImplies", spec := "orderImplies", unfollowed := true, recurses := true, apart := false, narrowed := true }
def OrderImpliesUptoSaid : Prop := orderImpliesUptoRow.holds Try.pinned (OpenSpec.upto orderImpliesSpec)

end Rows
end Go.Proofs.Ytcebjhbphcoboaa
