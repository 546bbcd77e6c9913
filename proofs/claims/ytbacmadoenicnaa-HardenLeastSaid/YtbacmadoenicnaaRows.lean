/-
  No cell of these rows narrows 'for every input' (looked for: loops, veiled, ifaces, maps, wideKeys, modest, calm, conditions, laid).
  DERIVED. THE GIVEN ROWS OF THIS SEAT. 3 by the template 'for every input the law returns true; each argument reads behind the call as it read before'; 0 by the template 'total and deterministic' (their statements: YtbacmadoenicnaaTotals.lean).
  GIVEN WITH THE SEED: the statements are not yours to turn. If you find one false, say at which input.
  Laid BY PROGRAM, IN A SANDBOX (cutbox-rows.mjs): the forced cells as the released guide's own fill.sh prints them over the translation 2e528419807a478f… (all of the seat's roots in one cut). By AI agents, Wed Nov 11 2026. No macro, syntax, notation, axiom, sorry.
-/
import Derived.Test.YtbacmadoenicnaaChecked
import GoSem.Claim
import GoSem.ClaimJoined
import GoSem.ClaimMapViews
import Derived.JoinedTies
import Derived.KernelRfl
namespace Go.Proofs.Ytbacmadoenicnaa
/- THE CELL 'sum', in the pinned program and in every row, IS THE sha256 OF THE DUMP (.gsa) THAT YtbacmadoenicnaaProg.lean LOADS. Nothing in Lean hashes anything: it is a label: what it is worth is what the hold of that sum in a sandbox is worth. -/
noncomputable def Try.pinned : Pinned := { name := "ytbacmadoenicnaa", sum := "2e528419807a478fb7b999e818b3c42aea377c31421f288c36e23d2c416bda2b", checked := Try.checked }
namespace Rows
def none {H : Type} : Left H := { results := [], args := [] }

/-- 'palingslaw14.HardenLoops': WHATEVER THE INPUT: true; the input reads as it did. -/
def hardenLoopsSpec : ChangeSpec := { name := "hardenLoops", fn := fun _ => fun
  | [d1, d2] => { results := [.lit (.bool true)], args := [d1, d2] }
  | _ => none }
def hardenLoopsRow : OpenClaim := { program := "ytbacmadoenicnaa", sum := "2e528419807a478fb7b999e818b3c42aea377c31421f288c36e23d2c416bda2b", func := "palings/palingslaw14.HardenLoops", spec := "hardenLoops", unfollowed := true, recurses := true, plainKeys := false, apart := false }
def HardenLoopsSaid : Prop := hardenLoopsRow.holds Try.pinned (OpenSpec.ofChange hardenLoopsSpec)

/-- ITS FALSE NEIGHBOUR: 'it returns false'. Refute it at one input. -/
def hardenLoopsWrong : ChangeSpec := { name := "hardenLoops", fn := fun _ => fun
  | [d1, d2] => { results := [.lit (.bool false)], args := [d1, d2] }
  | _ => none }
def HardenLoopsWrongFalsely : Prop := hardenLoopsRow.holds Try.pinned (OpenSpec.ofChange hardenLoopsWrong)

/-- 'palingslaw14.HardenNets': WHATEVER THE INPUT: true; the input reads as it did. -/
def hardenNetsSpec : ChangeSpec := { name := "hardenNets", fn := fun _ => fun
  | [d1, d2] => { results := [.lit (.bool true)], args := [d1, d2] }
  | _ => none }
def hardenNetsRow : OpenClaim := { program := "ytbacmadoenicnaa", sum := "2e528419807a478fb7b999e818b3c42aea377c31421f288c36e23d2c416bda2b", func := "palings/palingslaw14.HardenNets", spec := "hardenNets", unfollowed := true, recurses := true, plainKeys := false, apart := false }
def HardenNetsSaid : Prop := hardenNetsRow.holds Try.pinned (OpenSpec.ofChange hardenNetsSpec)

/-- ITS FALSE NEIGHBOUR: 'it returns false'. Refute it at one input. -/
def hardenNetsWrong : ChangeSpec := { name := "hardenNets", fn := fun _ => fun
  | [d1, d2] => { results := [.lit (.bool false)], args := [d1, d2] }
  | _ => none }
def HardenNetsWrongFalsely : Prop := hardenNetsRow.holds Try.pinned (OpenSpec.ofChange hardenNetsWrong)

/-- 'palingslaw14.HardenLeast': WHATEVER THE INPUT: true; the input reads as it did. -/
def hardenLeastSpec : ChangeSpec := { name := "hardenLeast", fn := fun _ => fun
  | [d] => { results := [.lit (.bool true)], args := [d] }
  | _ => none }
def hardenLeastRow : OpenClaim := { program := "ytbacmadoenicnaa", sum := "2e528419807a478fb7b999e818b3c42aea377c31421f288c36e23d2c416bda2b", func := "palings/palingslaw14.HardenLeast", spec := "hardenLeast", unfollowed := true, recurses := true, plainKeys := false, apart := false }
def HardenLeastSaid : Prop := hardenLeastRow.holds Try.pinned (OpenSpec.ofChange hardenLeastSpec)

/-- ITS FALSE NEIGHBOUR: 'it returns false'. Refute it at one input. -/
def hardenLeastWrong : ChangeSpec := { name := "hardenLeast", fn := fun _ => fun
  | [d] => { results := [.lit (.bool false)], args := [d] }
  | _ => none }
def HardenLeastWrongFalsely : Prop := hardenLeastRow.holds Try.pinned (OpenSpec.ofChange hardenLeastWrong)

/- THE SECOND FORM. 'bulk': how many values and letters a reading holds, each counted each time it is reached (what is shared counts as often as it is met; a slice's spare places count too). A statement '..UptoSaid' is the law's where the arguments, and the package variables that the reading takes, are together of bulk at most 1048576: NARROWER than '..Said'. Prove '..Said' where nothing that the law and all that it calls make is longer than what came in: it says more and counts as full. Else prove '..UptoSaid'. A law counts once. -/
mutual
def uptoBulk {H : Type} : DataW H → Nat
  | .lit (.string bytes) => bytes.length + 1
  | .lit _ => 1
  | .nil => 1
  | .ptr d => uptoBulk d + 1
  | .slice elems spare => uptoBulkAll elems + uptoBulkAll spare + 1
  | .agg parts => uptoBulkAll parts + 1
  | .iface _ d => uptoBulk d + 1
  | .map entries => uptoBulkEntries entries + 1
  | .held _ => 1
def uptoBulkAll {H : Type} : List (DataW H) → Nat
  | [] => 0
  | d :: r => uptoBulk d + uptoBulkAll r
def uptoBulkEntries {H : Type} : List (Lit × DataW H) → Nat
  | [] => 0
  | x :: r => uptoBulkEntry x + uptoBulkEntries r
def uptoBulkEntry {H : Type} : Lit × DataW H → Nat
  | (.string bytes, d) => bytes.length + uptoBulk d + 1
  | (_, d) => uptoBulk d + 1
 end
def uptoSmall : (H : Type) → List (DataW H) → Bool := fun _ ds => decide (uptoBulkAll ds ≤ 1048576)
def OpenSpec.upto (s : _root_.Go.ChangeSpec) : _root_.Go.OpenSpec := { _root_.Go.OpenSpec.ofChange s with cond := some uptoSmall }

/-- 'palingslaw14.HardenLoops', WHERE WHAT IT READS IS OF BULK AT MOST 1048576: true; the input reads as it did. -/
def hardenLoopsUptoRow : OpenClaim := { program := "ytbacmadoenicnaa", sum := "2e528419807a478fb7b999e818b3c42aea377c31421f288c36e23d2c416bda2b", func := "palings/palingslaw14.HardenLoops", spec := "hardenLoops", unfollowed := true, recurses := true, plainKeys := false, apart := false, narrowed := true }
def HardenLoopsUptoSaid : Prop := hardenLoopsUptoRow.holds Try.pinned (OpenSpec.upto hardenLoopsSpec)

/-- 'palingslaw14.HardenNets', WHERE WHAT IT READS IS OF BULK AT MOST 1048576: true; the input reads as it did. -/
def hardenNetsUptoRow : OpenClaim := { program := "ytbacmadoenicnaa", sum := "2e528419807a478fb7b999e818b3c42aea377c31421f288c36e23d2c416bda2b", func := "palings/palingslaw14.HardenNets", spec := "hardenNets", unfollowed := true, recurses := true, plainKeys := false, apart := false, narrowed := true }
def HardenNetsUptoSaid : Prop := hardenNetsUptoRow.holds Try.pinned (OpenSpec.upto hardenNetsSpec)

/-- 'palingslaw14.HardenLeast', WHERE WHAT IT READS IS OF BULK AT MOST 1048576: true; the input reads as it did. -/
def hardenLeastUptoRow : OpenClaim := { program := "ytbacmadoenicnaa", sum := "2e528419807a478fb7b999e818b3c42aea377c31421f288c36e23d2c416bda2b", func := "palings/palingslaw14.HardenLeast", spec := "hardenLeast", unfollowed := true, recurses := true, plainKeys := false, apart := false, narrowed := true }
def HardenLeastUptoSaid : Prop := hardenLeastUptoRow.holds Try.pinned (OpenSpec.upto hardenLeastSpec)

end Rows
end Go.Proofs.Ytbacmadoenicnaa
