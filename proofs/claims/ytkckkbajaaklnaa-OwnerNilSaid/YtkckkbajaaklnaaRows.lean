/-
  No cell of these rows narrows 'for every input' (looked for: loops, veiled, ifaces, maps, wideKeys, modest, calm, conditions, laid).
  DERIVED. THE GIVEN ROWS OF THIS SEAT. 5 by the template 'for every input the law returns true; each argument reads behind the call as it read before'; 0 by the template 'total and deterministic' (their statements: YtkckkbajaaklnaaTotals.lean).
  GIVEN WITH THE SEED: the statements are not yours to turn. If you find one false, say at which input.
  Laid BY PROGRAM, IN A SANDBOX (cutbox-rows.mjs): the forced cells as the released guide's own fill.sh prints them over the translation 973e8ed4e6b043f0… (all of the seat's roots in one cut). By AI agents, Wed Nov 11 2026. No macro, syntax, notation, axiom, sorry.
-/
import Derived.Test.YtkckkbajaaklnaaChecked
import GoSem.Claim
import GoSem.ClaimJoined
import GoSem.ClaimMapViews
import Derived.JoinedTies
import Derived.KernelRfl
namespace Go.Proofs.Ytkckkbajaaklnaa
/- THE CELL 'sum', in the pinned program and in every row, IS THE sha256 OF THE DUMP (.gsa) THAT YtkckkbajaaklnaaProg.lean LOADS. Nothing in Lean hashes anything: it is a label: what it is worth is what the hold of that sum in a sandbox is worth. -/
noncomputable def Try.pinned : Pinned := { name := "ytkckkbajaaklnaa", sum := "973e8ed4e6b043f0811de09f89307ddd8eef582e225e3839651808b52fee1850", checked := Try.checked }
namespace Rows
def none {H : Type} : Left H := { results := [], args := [] }

/-- 'quaysidelaw14.OwnerGoes': WHATEVER THE INPUT: true; the input reads as it did. -/
def ownerGoesSpec : ChangeSpec := { name := "ownerGoes", fn := fun _ => fun
  | [d1, d2, d3] => { results := [.lit (.bool true)], args := [d1, d2, d3] }
  | _ => none }
def ownerGoesRow : OpenClaim := { program := "ytkckkbajaaklnaa", sum := "973e8ed4e6b043f0811de09f89307ddd8eef582e225e3839651808b52fee1850", func := "quayside/quaysidelaw14.OwnerGoes", spec := "ownerGoes", apart := false }
def OwnerGoesSaid : Prop := ownerGoesRow.holds Try.pinned (OpenSpec.ofChange ownerGoesSpec)

/-- ITS FALSE NEIGHBOUR: 'it returns false'. Refute it at one input. -/
def ownerGoesWrong : ChangeSpec := { name := "ownerGoes", fn := fun _ => fun
  | [d1, d2, d3] => { results := [.lit (.bool false)], args := [d1, d2, d3] }
  | _ => none }
def OwnerGoesWrongFalsely : Prop := ownerGoesRow.holds Try.pinned (OpenSpec.ofChange ownerGoesWrong)

/-- 'quaysidelaw14.OwnerPlays': WHATEVER THE INPUT: true; the input reads as it did. -/
def ownerPlaysSpec : ChangeSpec := { name := "ownerPlays", fn := fun _ => fun
  | [d1, d2] => { results := [.lit (.bool true)], args := [d1, d2] }
  | _ => none }
def ownerPlaysRow : OpenClaim := { program := "ytkckkbajaaklnaa", sum := "973e8ed4e6b043f0811de09f89307ddd8eef582e225e3839651808b52fee1850", func := "quayside/quaysidelaw14.OwnerPlays", spec := "ownerPlays", apart := false }
def OwnerPlaysSaid : Prop := ownerPlaysRow.holds Try.pinned (OpenSpec.ofChange ownerPlaysSpec)

/-- ITS FALSE NEIGHBOUR: 'it returns false'. Refute it at one input. -/
def ownerPlaysWrong : ChangeSpec := { name := "ownerPlays", fn := fun _ => fun
  | [d1, d2] => { results := [.lit (.bool false)], args := [d1, d2] }
  | _ => none }
def OwnerPlaysWrongFalsely : Prop := ownerPlaysRow.holds Try.pinned (OpenSpec.ofChange ownerPlaysWrong)

/-- 'quaysidelaw14.OwnerOne': WHATEVER THE INPUT: true; the input reads as it did. -/
def ownerOneSpec : ChangeSpec := { name := "ownerOne", fn := fun _ => fun
  | [d1, d2] => { results := [.lit (.bool true)], args := [d1, d2] }
  | _ => none }
def ownerOneRow : OpenClaim := { program := "ytkckkbajaaklnaa", sum := "973e8ed4e6b043f0811de09f89307ddd8eef582e225e3839651808b52fee1850", func := "quayside/quaysidelaw14.OwnerOne", spec := "ownerOne", apart := false }
def OwnerOneSaid : Prop := ownerOneRow.holds Try.pinned (OpenSpec.ofChange ownerOneSpec)

/-- ITS FALSE NEIGHBOUR: 'it returns false'. Refute it at one input. -/
def ownerOneWrong : ChangeSpec := { name := "ownerOne", fn := fun _ => fun
  | [d1, d2] => { results := [.lit (.bool false)], args := [d1, d2] }
  | _ => none }
def OwnerOneWrongFalsely : Prop := ownerOneRow.holds Try.pinned (OpenSpec.ofChange ownerOneWrong)

/-- 'quaysidelaw14.OwnerFails': WHATEVER THE INPUT: true; the input reads as it did. -/
def ownerFailsSpec : ChangeSpec := { name := "ownerFails", fn := fun _ => fun
  | [d1, d2] => { results := [.lit (.bool true)], args := [d1, d2] }
  | _ => none }
def ownerFailsRow : OpenClaim := { program := "ytkckkbajaaklnaa", sum := "973e8ed4e6b043f0811de09f89307ddd8eef582e225e3839651808b52fee1850", func := "quayside/quaysidelaw14.OwnerFails", spec := "ownerFails", apart := false }
def OwnerFailsSaid : Prop := ownerFailsRow.holds Try.pinned (OpenSpec.ofChange ownerFailsSpec)

/-- ITS FALSE NEIGHBOUR: 'it returns false'. Refute it at one input. -/
def ownerFailsWrong : ChangeSpec := { name := "ownerFails", fn := fun _ => fun
  | [d1, d2] => { results := [.lit (.bool false)], args := [d1, d2] }
  | _ => none }
def OwnerFailsWrongFalsely : Prop := ownerFailsRow.holds Try.pinned (OpenSpec.ofChange ownerFailsWrong)

/-- 'quaysidelaw14.OwnerNil': WHATEVER THE INPUT: true; the input reads as it did. -/
def ownerNilSpec : ChangeSpec := { name := "ownerNil", fn := fun _ => fun
  | [d1, d2] => { results := [.lit (.bool true)], args := [d1, d2] }
  | _ => none }
def ownerNilRow : OpenClaim := { program := "ytkckkbajaaklnaa", sum := "973e8ed4e6b043f0811de09f89307ddd8eef582e225e3839651808b52fee1850", func := "quayside/quaysidelaw14.OwnerNil", spec := "ownerNil", apart := false }
def OwnerNilSaid : Prop := ownerNilRow.holds Try.pinned (OpenSpec.ofChange ownerNilSpec)

/-- ITS FALSE NEIGHBOUR: 'it returns false'. Refute it at one input. -/
def ownerNilWrong : ChangeSpec := { name := "ownerNil", fn := fun _ => fun
  | [d1, d2] => { results := [.lit (.bool false)], args := [d1, d2] }
  | _ => none }
def OwnerNilWrongFalsely : Prop := ownerNilRow.holds Try.pinned (OpenSpec.ofChange ownerNilWrong)

/- THE SECOND FORM. 'bulk': how many values and letters a reading holds, each counted each time it is reached (what is shared counts as often as it is met; a slice's spare places count too). A statement '..UptoSaid' is the law's where the arguments, and the package variables that the reading takes, are together of bulk at most 1048576: NARROWER than '..Said'. Prove '..Said' where nothing that the law and all that it calls make is longer than what came in: it says more and counts as full. Else prove '..UptoSaid'. A law counts once. -/
mutual
def uptoBulk {H : Type} : DataW H → Nat
  | .lit (.string bytes) => bytes.length + 1
  | .lit _ => 1
  | .nil => 1
  | .ptr d => uptoBulk d + 1
  | .slice elems spare => uptoBulkAll elems + uptoBulkAll spare + 1
  | .agg parts => uptoBulkAll parts + 1
  | .iface _ d => uptoBulk d + 1
  | .map entries => uptoBulkEntries entries + 1
  | .held _ => 1
def uptoBulkAll {H : Type} : List (DataW H) → Nat
  | [] => 0
  | d :: r => uptoBulk d + uptoBulkAll r
def uptoBulkEntries {H : Type} : List (Lit × DataW H) → Nat
  | [] => 0
  | x :: r => uptoBulkEntry x + uptoBulkEntries r
def uptoBulkEntry {H : Type} : Lit × DataW H → Nat
  | (.string bytes, d) => bytes.length + uptoBulk d + 1
  | (_, d) => uptoBulk d + 1
 end
def uptoSmall : (H : Type) → List (DataW H) → Bool := fun _ ds => decide (uptoBulkAll ds ≤ 1048576)
def OpenSpec.upto (s : _root_.Go.ChangeSpec) : _root_.Go.OpenSpec := { _root_.Go.OpenSpec.ofChange s with cond := some uptoSmall }

/-- 'quaysidelaw14.OwnerGoes', WHERE WHAT IT READS IS OF BULK AT MOST 1048576: true; the input reads as it did. -/
def ownerGoesUptoRow : OpenClaim := { program := "ytkckkbajaaklnaa", sum := "973e8ed4e6b043f0811de09f89307ddd8eef582e225e3839651808b52fee1850", func := "quayside/quaysidelaw14.OwnerGoes", spec := "ownerGoes", apart := false, narrowed := true }
def OwnerGoesUptoSaid : Prop := ownerGoesUptoRow.holds Try.pinned (OpenSpec.upto ownerGoesSpec)

/-- 'quaysidelaw14.OwnerPlays', WHERE WHAT IT READS IS OF BULK AT MOST 1048576: true; the input reads as it did. -/
def ownerPlaysUptoRow : OpenClaim := { program := "ytkckkbajaaklnaa", sum := "973e8ed4e6b043f0811de09f89307ddd8eef582e225e3839651808b52fee1850", func := "quayside/quaysidelaw14.OwnerPlays", spec := "ownerPlays", apart := false, narrowed := true }
def OwnerPlaysUptoSaid : Prop := ownerPlaysUptoRow.holds Try.pinned (OpenSpec.upto ownerPlaysSpec)

/-- 'quaysidelaw14.OwnerOne', WHERE WHAT IT READS IS OF BULK AT MOST 1048576: true; the input reads as it did. -/
def ownerOneUptoRow : OpenClaim := { program := "ytkckkbajaaklnaa", sum := "973e8ed4e6b043f0811de09f89307ddd8eef582e225e3839651808b52fee1850", func := "quayside/quaysidelaw14.OwnerOne", spec := "ownerOne", apart := false, narrowed := true }
def OwnerOneUptoSaid : Prop := ownerOneUptoRow.holds Try.pinned (OpenSpec.upto ownerOneSpec)

/-- 'quaysidelaw14.OwnerFails', WHERE WHAT IT READS IS OF BULK AT MOST 1048576: true; the input reads as it did. -/
def ownerFailsUptoRow : OpenClaim := { program := "ytkckkbajaaklnaa", sum := "973e8ed4e6b043f0811de09f89307ddd8eef582e225e3839651808b52fee1850", func := "quayside/quaysidelaw14.OwnerFails", spec := "ownerFails", apart := false, narrowed := true }
def OwnerFailsUptoSaid : Prop := ownerFailsUptoRow.holds Try.pinned (OpenSpec.upto ownerFailsSpec)

/-- 'quaysidelaw14.OwnerNil', WHERE WHAT IT READS IS OF BULK AT MOST 1048576: true; the input reads as it did. -/
def ownerNilUptoRow : OpenClaim := { program := "ytkckkbajaaklnaa", sum := "973e8ed4e6b043f0811de09f89307ddd8eef582e225e3839651808b52fee1850", func := "quayside/quaysidelaw14.OwnerNil", spec := "ownerNil", apart := false, narrowed := true }
def OwnerNilUptoSaid : Prop := ownerNilUptoRow.holds Try.pinned (OpenSpec.upto ownerNilSpec)

end Rows
end Go.Proofs.Ytkckkbajaaklnaa
