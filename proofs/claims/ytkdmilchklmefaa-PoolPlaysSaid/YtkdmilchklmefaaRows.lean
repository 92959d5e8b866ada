/-
  No cell of these rows narrows 'for every input' (looked for: loops, veiled, ifaces, maps, wideKeys, modest, calm, conditions, laid).
  DERIVED. THE GIVEN ROWS OF THIS SEAT. 6 by the template 'for every input the law returns true; each argument reads behind the call as it read before'; 0 by the template 'total and deterministic' (their statements: YtkdmilchklmefaaTotals.lean).
  GIVEN WITH THE SEED: the statements are not yours to turn. If you find one false, say at which input.
  Laid BY PROGRAM, IN A SANDBOX (cutbox-rows.mjs): the forced cells as the released guide's own fill.sh prints them over the translation bb2038c597198fbe… (all of the seat's roots in one cut). By AI agents, Wed Nov 11 2026. No macro, syntax, notation, axiom, sorry.
-/
import Derived.Test.YtkdmilchklmefaaChecked
import GoSem.Claim
import GoSem.ClaimJoined
import GoSem.ClaimMapViews
import Derived.JoinedTies
import Derived.KernelRfl
namespace Go.Proofs.Ytkdmilchklmefaa
/- THE CELL 'sum', in the pinned program and in every row, IS THE sha256 OF THE DUMP (.gsa) THAT YtkdmilchklmefaaProg.lean LOADS. Nothing in Lean hashes anything: it is a label: what it is worth is what the hold of that sum in a sandbox is worth. -/
noncomputable def Try.pinned : Pinned := { name := "ytkdmilchklmefaa", sum := "bb2038c597198fbe65a26bbb66574c20f7ef11c051223f7dae9b3ae03165330b", checked := Try.checked }
namespace Rows
def none {H : Type} : Left H := { results := [], args := [] }

/-- 'quaysidelaw11.PoolRecs': WHATEVER THE INPUT: true; the input reads as it did. -/
def poolRecsSpec : ChangeSpec := { name := "poolRecs", fn := fun _ => fun
  | [d1, d2, d3] => { results := [.lit (.bool true)], args := [d1, d2, d3] }
  | _ => none }
def poolRecsRow : OpenClaim := { program := "ytkdmilchklmefaa", sum := "bb2038c597198fbe65a26bbb66574c20f7ef11c051223f7dae9b3ae03165330b", func := "quayside/quaysidelaw11.PoolRecs", spec := "poolRecs", apart := false }
def PoolRecsSaid : Prop := poolRecsRow.holds Try.pinned (OpenSpec.ofChange poolRecsSpec)

/-- ITS FALSE NEIGHBOUR: 'it returns false'. Refute it at one input. -/
def poolRecsWrong : ChangeSpec := { name := "poolRecs", fn := fun _ => fun
  | [d1, d2, d3] => { results := [.lit (.bool false)], args := [d1, d2, d3] }
  | _ => none }
def PoolRecsWrongFalsely : Prop := poolRecsRow.holds Try.pinned (OpenSpec.ofChange poolRecsWrong)

/-- 'quaysidelaw11.PoolVictims': WHATEVER THE INPUT: true; the input reads as it did. -/
def poolVictimsSpec : ChangeSpec := { name := "poolVictims", fn := fun _ => fun
  | [d1, d2] => { results := [.lit (.bool true)], args := [d1, d2] }
  | _ => none }
def poolVictimsRow : OpenClaim := { program := "ytkdmilchklmefaa", sum := "bb2038c597198fbe65a26bbb66574c20f7ef11c051223f7dae9b3ae03165330b", func := "quayside/quaysidelaw11.PoolVictims", spec := "poolVictims", apart := false }
def PoolVictimsSaid : Prop := poolVictimsRow.holds Try.pinned (OpenSpec.ofChange poolVictimsSpec)

/-- ITS FALSE NEIGHBOUR: 'it returns false'. Refute it at one input. -/
def poolVictimsWrong : ChangeSpec := { name := "poolVictims", fn := fun _ => fun
  | [d1, d2] => { results := [.lit (.bool false)], args := [d1, d2] }
  | _ => none }
def PoolVictimsWrongFalsely : Prop := poolVictimsRow.holds Try.pinned (OpenSpec.ofChange poolVictimsWrong)

/-- 'quaysidelaw11.PoolSecond': WHATEVER THE INPUT: true; the input reads as it did. -/
def poolSecondSpec : ChangeSpec := { name := "poolSecond", fn := fun _ => fun
  | [d1, d2, d3] => { results := [.lit (.bool true)], args := [d1, d2, d3] }
  | _ => none }
def poolSecondRow : OpenClaim := { program := "ytkdmilchklmefaa", sum := "bb2038c597198fbe65a26bbb66574c20f7ef11c051223f7dae9b3ae03165330b", func := "quayside/quaysidelaw11.PoolSecond", spec := "poolSecond", apart := false }
def PoolSecondSaid : Prop := poolSecondRow.holds Try.pinned (OpenSpec.ofChange poolSecondSpec)

/-- ITS FALSE NEIGHBOUR: 'it returns false'. Refute it at one input. -/
def poolSecondWrong : ChangeSpec := { name := "poolSecond", fn := fun _ => fun
  | [d1, d2, d3] => { results := [.lit (.bool false)], args := [d1, d2, d3] }
  | _ => none }
def PoolSecondWrongFalsely : Prop := poolSecondRow.holds Try.pinned (OpenSpec.ofChange poolSecondWrong)

/-- 'quaysidelaw11.PoolPlays': WHATEVER THE INPUT: true; the input reads as it did. -/
def poolPlaysSpec : ChangeSpec := { name := "poolPlays", fn := fun _ => fun
  | [d1, d2] => { results := [.lit (.bool true)], args := [d1, d2] }
  | _ => none }
def poolPlaysRow : OpenClaim := { program := "ytkdmilchklmefaa", sum := "bb2038c597198fbe65a26bbb66574c20f7ef11c051223f7dae9b3ae03165330b", func := "quayside/quaysidelaw11.PoolPlays", spec := "poolPlays", apart := false }
def PoolPlaysSaid : Prop := poolPlaysRow.holds Try.pinned (OpenSpec.ofChange poolPlaysSpec)

/-- ITS FALSE NEIGHBOUR: 'it returns false'. Refute it at one input. -/
def poolPlaysWrong : ChangeSpec := { name := "poolPlays", fn := fun _ => fun
  | [d1, d2] => { results := [.lit (.bool false)], args := [d1, d2] }
  | _ => none }
def PoolPlaysWrongFalsely : Prop := poolPlaysRow.holds Try.pinned (OpenSpec.ofChange poolPlaysWrong)

/-- 'quaysidelaw11.PoolAny': WHATEVER THE INPUT: true; the input reads as it did. -/
def poolAnySpec : ChangeSpec := { name := "poolAny", fn := fun _ => fun
  | [d1, d2] => { results := [.lit (.bool true)], args := [d1, d2] }
  | _ => none }
def poolAnyRow : OpenClaim := { program := "ytkdmilchklmefaa", sum := "bb2038c597198fbe65a26bbb66574c20f7ef11c051223f7dae9b3ae03165330b", func := "quayside/quaysidelaw11.PoolAny", spec := "poolAny", apart := false }
def PoolAnySaid : Prop := poolAnyRow.holds Try.pinned (OpenSpec.ofChange poolAnySpec)

/-- ITS FALSE NEIGHBOUR: 'it returns false'. Refute it at one input. -/
def poolAnyWrong : ChangeSpec := { name := "poolAny", fn := fun _ => fun
  | [d1, d2] => { results := [.lit (.bool false)], args := [d1, d2] }
  | _ => none }
def PoolAnyWrongFalsely : Prop := poolAnyRow.holds Try.pinned (OpenSpec.ofChange poolAnyWrong)

/-- 'quaysidelaw11.PoolNil': WHATEVER THE INPUT: true; the input reads as it did. -/
def poolNilSpec : ChangeSpec := { name := "poolNil", fn := fun _ => fun
  | [d1, d2] => { results := [.lit (.bool true)], args := [d1, d2] }
  | _ => none }
def poolNilRow : OpenClaim := { program := "ytkdmilchklmefaa", sum := "bb2038c597198fbe65a26bbb66574c20f7ef11c051223f7dae9b3ae03165330b", func := "quayside/quaysidelaw11.PoolNil", spec := "poolNil", apart := false }
def PoolNilSaid : Prop := poolNilRow.holds Try.pinned (OpenSpec.ofChange poolNilSpec)

/-- ITS FALSE NEIGHBOUR: 'it returns false'. Refute it at one input. -/
def poolNilWrong : ChangeSpec := { name := "poolNil", fn := fun _ => fun
  | [d1, d2] => { results := [.lit (.bool false)], args := [d1, d2] }
  | _ => none }
def PoolNilWrongFalsely : Prop := poolNilRow.holds Try.pinned (OpenSpec.ofChange poolNilWrong)

/- THE SECOND FORM. 'bulk': how many values and letters a reading holds, each counted each time it is reached (what is shared counts as often as it is met; a slice's spare places count too). A statement '..UptoSaid' is the law's where the arguments, and the package variables that the reading takes, are together of bulk at most 1048576: NARROWER than '..Said'. Prove '..Said' where nothing that the law and all that it calls make is longer than what came in: it says more and counts as full. Else prove '..UptoSaid'. A law counts once. -/
mutual
def uptoBulk {H : Type} : DataW H → Nat
  | .lit (.string bytes) => bytes.length + 1
  | .lit _ => 1
  | .nil => 1
  | .ptr d => uptoBulk d + 1
  | .slice elems spare => uptoBulkAll elems + uptoBulkAll spare + 1
  | .agg parts => uptoBulkAll parts + 1
  | .iface _ d => uptoBulk d + 1
  | .map entries => uptoBulkEntries entries + 1
  | .held _ => 1
def uptoBulkAll {H : Type} : List (DataW H) → Nat
  | [] => 0
  | d :: r => uptoBulk d + uptoBulkAll r
def uptoBulkEntries {H : Type} : List (Lit × DataW H) → Nat
  | [] => 0
  | x :: r => uptoBulkEntry x + uptoBulkEntries r
def uptoBulkEntry {H : Type} : Lit × DataW H → Nat
  | (.string bytes, d) => bytes.length + uptoBulk d + 1
  | (_, d) => uptoBulk d + 1
 end
def uptoSmall : (H : Type) → List (DataW H) → Bool := fun _ ds => decide (uptoBulkAll ds ≤ 1048576)
def OpenSpec.upto (s : _root_.Go.ChangeSpec) : _root_.Go.OpenSpec := { _root_.Go.OpenSpec.ofChange s with cond := some uptoSmall }

/-- 'quaysidelaw11.PoolRecs', WHERE WHAT IT READS IS OF BULK AT MOST 1048576: true; the input reads as it did. -/
def poolRecsUptoRow : OpenClaim := { program := "ytkdmilchklmefaa", sum := "bb2038c597198fbe65a26bbb66574c20f7ef11c051223f7dae9b3ae03165330b", func := "quayside/quaysidelaw11.PoolRecs", spec := "poolRecs", apart := false, narrowed := true }
def PoolRecsUptoSaid : Prop := poolRecsUptoRow.holds Try.pinned (OpenSpec.upto poolRecsSpec)

/-- 'quaysidelaw11.PoolVictims', WHERE WHAT IT READS IS OF BULK AT MOST 1048576: true; the input reads as it did. -/
def poolVictimsUptoRow : OpenClaim := { program := "ytkdmilchklmefaa", sum := "bb2038c597198fbe65a26bbb66574c20f7ef11c051223f7dae9b3ae03165330b", func := "quayside/quaysidelaw11.PoolVictims", spec := "poolVictims", apart := false, narrowed := true }
def PoolVictimsUptoSaid : Prop := poolVictimsUptoRow.holds Try.pinned (OpenSpec.upto poolVictimsSpec)

/-- 'quaysidelaw11.PoolSecond', WHERE WHAT IT READS IS OF BULK AT MOST 1048576: true; the input reads as it did. -/
def poolSecondUptoRow : OpenClaim := { program := "ytkdmilchklmefaa", sum := "bb2038c597198fbe65a26bbb66574c20f7ef11c051223f7dae9b3ae03165330b", func := "quayside/quaysidelaw11.PoolSecond", spec := "poolSecond", apart := false, narrowed := true }
def PoolSecondUptoSaid : Prop := poolSecondUptoRow.holds Try.pinned (OpenSpec.upto poolSecondSpec)

/-- 'quaysidelaw11.PoolPlays', WHERE WHAT IT READS IS OF BULK AT MOST 1048576: true; the input reads as it did. -/
def poolPlaysUptoRow : OpenClaim := { program := "ytkdmilchklmefaa", sum := "bb2038c597198fbe65a26bbb66574c20f7ef11c051223f7dae9b3ae03165330b", func := "quayside/quaysidelaw11.PoolPlays", spec := "poolPlays", apart := false, narrowed := true }
def PoolPlaysUptoSaid : Prop := poolPlaysUptoRow.holds Try.pinned (OpenSpec.upto poolPlaysSpec)

/-- 'quaysidelaw11.PoolAny', WHERE WHAT IT READS IS OF BULK AT MOST 1048576: true; the input reads as it did. -/
def poolAnyUptoRow : OpenClaim := { program := "ytkdmilchklmefaa", sum := "bb2038c597198fbe65a26bbb66574c20f7ef11c051223f7dae9b3ae03165330b", func := "quayside/quaysidelaw11.PoolAny", spec := "poolAny", apart := false, narrowed := true }
def PoolAnyUptoSaid : Prop := poolAnyUptoRow.holds Try.pinned (OpenSpec.upto poolAnySpec)

/-- 'quaysidelaw11.PoolNil', WHERE WHAT IT READS IS OF BULK AT MOST 1048576: true; the input reads as it did. -/
def poolNilUptoRow : OpenClaim := { program := "ytkdmilchklmefaa", sum := "bb2038c597198fbe65a26bbb66574c20f7ef11c051223f7dae9b3ae03165330b", func := "quayside/quaysidelaw11.PoolNil", spec := "poolNil", apart := false, narrowed := true }
def PoolNilUptoSaid : Prop := poolNilUptoRow.holds Try.pinned (OpenSpec.upto poolNilSpec)

end Rows
end Go.Proofs.Ytkdmilchklmefaa
