/-
  No cell of these rows narrows 'for every input' (looked for: loops, veiled, ifaces, maps, wideKeys, modest, calm, conditions, laid).
  DERIVED. THE GIVEN ROWS OF THIS SEAT. 5 by the template 'for every input the law returns true; each argument reads behind the call as it read before'; 0 by the template 'total and deterministic' (their statements: YtglkbjpcpfbmnaaTotals.lean).
  GIVEN WITH THE SEED: the statements are not yours to turn. If you find one false, say at which input.
  Laid BY PROGRAM, IN A SANDBOX (cutbox-rows.mjs): the forced cells as the released guide's own fill.sh prints them over the translation e5fcb49c35fd569b… (all of the seat's roots in one cut). By AI agents, Wed Nov 11 2026. No macro, syntax, notation, axiom, sorry.
-/
import Derived.Test.YtglkbjpcpfbmnaaChecked
import GoSem.Claim
import GoSem.ClaimJoined
import GoSem.ClaimMapViews
import Derived.JoinedTies
import Derived.KernelRfl
namespace Go.Proofs.Ytglkbjpcpfbmnaa
/- THE CELL 'sum', in the pinned program and in every row, IS THE sha256 OF THE DUMP (.gsa) THAT YtglkbjpcpfbmnaaProg.lean LOADS. Nothing in Lean hashes anything: it is a label: what it is worth is what the hold of that sum in a sandbox is worth. -/
noncomputable def Try.pinned : Pinned := { name := "ytglkbjpcpfbmnaa", sum := "e5fcb49c35fd569b34b345ea679e00f8799a346fa9df0035dcdd53946fc04215", checked := Try.checked }
namespace Rows
def none {H : Type} : Left H := { results := [], args := [] }

/-- 'quaysidelaw12.ModeJoins': WHATEVER THE INPUT: true; the input reads as it did. -/
def modeJoinsSpec : ChangeSpec := { name := "modeJoins", fn := fun _ => fun
  | [d1, d2, d3] => { results := [.lit (.bool true)], args := [d1, d2, d3] }
  | _ => none }
def modeJoinsRow : OpenClaim := { program := "ytglkbjpcpfbmnaa", sum := "e5fcb49c35fd569b34b345ea679e00f8799a346fa9df0035dcdd53946fc04215", func := "quayside/quaysidelaw12.ModeJoins", spec := "modeJoins", apart := false }
def ModeJoinsSaid : Prop := modeJoinsRow.holds Try.pinned (OpenSpec.ofChange modeJoinsSpec)

/-- ITS FALSE NEIGHBOUR: 'it returns false'. Refute it at one input. -/
def modeJoinsWrong : ChangeSpec := { name := "modeJoins", fn := fun _ => fun
  | [d1, d2, d3] => { results := [.lit (.bool false)], args := [d1, d2, d3] }
  | _ => none }
def ModeJoinsWrongFalsely : Prop := modeJoinsRow.holds Try.pinned (OpenSpec.ofChange modeJoinsWrong)

/-- 'quaysidelaw12.ModeLeast': WHATEVER THE INPUT: true; the input reads as it did. -/
def modeLeastSpec : ChangeSpec := { name := "modeLeast", fn := fun _ => fun
  | [d1, d2, d3] => { results := [.lit (.bool true)], args := [d1, d2, d3] }
  | _ => none }
def modeLeastRow : OpenClaim := { program := "ytglkbjpcpfbmnaa", sum := "e5fcb49c35fd569b34b345ea679e00f8799a346fa9df0035dcdd53946fc04215", func := "quayside/quaysidelaw12.ModeLeast", spec := "modeLeast", apart := false }
def ModeLeastSaid : Prop := modeLeastRow.holds Try.pinned (OpenSpec.ofChange modeLeastSpec)

/-- ITS FALSE NEIGHBOUR: 'it returns false'. Refute it at one input. -/
def modeLeastWrong : ChangeSpec := { name := "modeLeast", fn := fun _ => fun
  | [d1, d2, d3] => { results := [.lit (.bool false)], args := [d1, d2, d3] }
  | _ => none }
def ModeLeastWrongFalsely : Prop := modeLeastRow.holds Try.pinned (OpenSpec.ofChange modeLeastWrong)

/-- 'quaysidelaw12.ModeFits': WHATEVER THE INPUT: true; the input reads as it did. -/
def modeFitsSpec : ChangeSpec := { name := "modeFits", fn := fun _ => fun
  | [d1, d2, d3] => { results := [.lit (.bool true)], args := [d1, d2, d3] }
  | _ => none }
def modeFitsRow : OpenClaim := { program := "ytglkbjpcpfbmnaa", sum := "e5fcb49c35fd569b34b345ea679e00f8799a346fa9df0035dcdd53946fc04215", func := "quayside/quaysidelaw12.ModeFits", spec := "modeFits", apart := false }
def ModeFitsSaid : Prop := modeFitsRow.holds Try.pinned (OpenSpec.ofChange modeFitsSpec)

/-- ITS FALSE NEIGHBOUR: 'it returns false'. Refute it at one input. -/
def modeFitsWrong : ChangeSpec := { name := "modeFits", fn := fun _ => fun
  | [d1, d2, d3] => { results := [.lit (.bool false)], args := [d1, d2, d3] }
  | _ => none }
def ModeFitsWrongFalsely : Prop := modeFitsRow.holds Try.pinned (OpenSpec.ofChange modeFitsWrong)

/-- 'quaysidelaw12.ModeTables': WHATEVER THE INPUT: true; the input reads as it did. -/
def modeTablesSpec : ChangeSpec := { name := "modeTables", fn := fun _ => fun
  | [d1, d2] => { results := [.lit (.bool true)], args := [d1, d2] }
  | _ => none }
def modeTablesRow : OpenClaim := { program := "ytglkbjpcpfbmnaa", sum := "e5fcb49c35fd569b34b345ea679e00f8799a346fa9df0035dcdd53946fc04215", func := "quayside/quaysidelaw12.ModeTables", spec := "modeTables", apart := false }
def ModeTablesSaid : Prop := modeTablesRow.holds Try.pinned (OpenSpec.ofChange modeTablesSpec)

/-- ITS FALSE NEIGHBOUR: 'it returns false'. Refute it at one input. -/
def modeTablesWrong : ChangeSpec := { name := "modeTables", fn := fun _ => fun
  | [d1, d2] => { results := [.lit (.bool false)], args := [d1, d2] }
  | _ => none }
def ModeTablesWrongFalsely : Prop := modeTablesRow.holds Try.pinned (OpenSpec.ofChange modeTablesWrong)

/-- 'quaysidelaw12.ModeAround': WHATEVER THE INPUT: true; the input reads as it did. -/
def modeAroundSpec : ChangeSpec := { name := "modeAround", fn := fun _ => fun
  | [d1, d2] => { results := [.lit (.bool true)], args := [d1, d2] }
  | _ => none }
def modeAroundRow : OpenClaim := { program := "ytglkbjpcpfbmnaa", sum := "e5fcb49c35fd569b34b345ea679e00f8799a346fa9df0035dcdd53946fc04215", func := "quayside/quaysidelaw12.ModeAround", spec := "modeAround", apart := false }
def ModeAroundSaid : Prop := modeAroundRow.holds Try.pinned (OpenSpec.ofChange modeAroundSpec)

/-- ITS FALSE NEIGHBOUR: 'it returns false'. Refute it at one input. -/
def modeAroundWrong : ChangeSpec := { name := "modeAround", fn := fun _ => fun
  | [d1, d2] => { results := [.lit (.bool false)], args := [d1, d2] }
  | _ => none }
def ModeAroundWrongFalsely : Prop := modeAroundRow.holds Try.pinned (OpenSpec.ofChange modeAroundWrong)

/- THE SECOND FORM. 'bulk': how many values and letters a reading holds, each counted each time it is reached (what is shared counts as often as it is met; a slice's spare places count too). A statement '..UptoSaid' is the law's where the arguments, and the package variables that the reading takes, are together of bulk at most 1048576: NARROWER than '..Said'. Prove '..Said' where nothing that the law and all that it calls make is longer than what came in: it says more and counts as full. Else prove '..UptoSaid'. A law counts once. -/
mutual
def uptoBulk {H : Type} : DataW H → Nat
  | .lit (.string bytes) => bytes.length + 1
  | .lit _ => 1
  | .nil => 1
  | .ptr d => uptoBulk d + 1
  | .slice elems spare => uptoBulkAll elems + uptoBulkAll spare + 1
  | .agg parts => uptoBulkAll parts + 1
  | .iface _ d => uptoBulk d + 1
  | .map entries => uptoBulkEntries entries + 1
  | .held _ => 1
def uptoBulkAll {H : Type} : List (DataW H) → Nat
  | [] => 0
  | d :: r => uptoBulk d + uptoBulkAll r
def uptoBulkEntries {H : Type} : List (Lit × DataW H) → Nat
  | [] => 0
  | x :: r => uptoBulkEntry x + uptoBulkEntries r
def uptoBulkEntry {H : Type} : Lit × DataW H → Nat
  | (.string bytes, d) => bytes.length + uptoBulk d + 1
  | (_, d) => uptoBulk d + 1
 end
def uptoSmall : (H : Type) → List (DataW H) → Bool := fun _ ds => decide (uptoBulkAll ds ≤ 1048576)
def OpenSpec.upto (s : _root_.Go.ChangeSpec) : _root_.Go.OpenSpec := { _root_.Go.OpenSpec.ofChange s with cond := some uptoSmall }

/-- 'quaysidelaw12.ModeJoins', WHERE WHAT IT READS IS OF BULK AT MOST 1048576: true; the input reads as it did. -/
def modeJoinsUptoRow : OpenClaim := { program := "ytglkbjpcpfbmnaa", sum := "e5fcb49c35fd569b34b345ea679e00f8799a346fa9df0035dcdd53946fc04215", func := "quayside/quaysidelaw12.ModeJoins", spec := "modeJoins", apart := false, narrowed := true }
def ModeJoinsUptoSaid : Prop := modeJoinsUptoRow.holds Try.pinned (OpenSpec.upto modeJoinsSpec)

/-- 'quaysidelaw12.ModeLeast', WHERE WHAT IT READS IS OF BULK AT MOST 1048576: true; the input reads as it did. -/
def modeLeastUptoRow : OpenClaim := { program := "ytglkbjpcpfbmnaa", sum := "e5fcb49c35fd569b34b345ea679e00f8799a346fa9df0035dcdd53946fc04215", func := "quayside/quaysidelaw12.ModeLeast", spec := "modeLeast", apart := false, narrowed := true }
def ModeLeastUptoSaid : Prop := modeLeastUptoRow.holds Try.pinned (OpenSpec.upto modeLeastSpec)

/-- 'quaysidelaw12.ModeFits', WHERE WHAT IT READS IS OF BULK AT MOST 1048576: true; the input reads as it did. -/
def modeFitsUptoRow : OpenClaim := { program := "ytglkbjpcpfbmnaa", sum := "e5fcb49c35fd569b34b345ea679e00f8799a346fa9df0035dcdd53946fc04215", func := "quayside/quaysidelaw12.ModeFits", spec := "modeFits", apart := false, narrowed := true }
def ModeFitsUptoSaid : Prop := modeFitsUptoRow.holds Try.pinned (OpenSpec.upto modeFitsSpec)

/-- 'quaysidelaw12.ModeTables', WHERE WHAT IT READS IS OF BULK AT MOST 1048576: true; the input reads as it did. -/
def modeTablesUptoRow : OpenClaim := { program := "ytglkbjpcpfbmnaa", sum := "e5fcb49c35fd569b34b345ea679e00f8799a346fa9df0035dcdd53946fc04215", func := "quayside/quaysidelaw12.ModeTables", spec := "modeTables", apart := false, narrowed := true }
def ModeTablesUptoSaid : Prop := modeTablesUptoRow.holds Try.pinned (OpenSpec.upto modeTablesSpec)

/-- 'quaysidelaw12.ModeAround', WHERE WHAT IT READS IS OF BULK AT MOST 1048576: true; the input reads as it did. -/
def modeAroundUptoRow : OpenClaim := { program := "ytglkbjpcpfbmnaa", sum := "e5fcb49c35fd569b34b345ea679e00f8799a346fa9df0035dcdd53946fc04215", func := "quayside/quaysidelaw12.ModeAround", spec := "modeAround", apart := false, narrowed := true }
def ModeAroundUptoSaid : Prop := modeAroundUptoRow.holds Try.pinned (OpenSpec.upto modeAroundSpec)

end Rows
end Go.Proofs.Ytglkbjpcpfbmnaa
