/-
  No cell of these rows narrows 'for every input' (looked for: loops, veiled, ifaces, maps, wideKeys, modest, calm, conditions, laid).
  DERIVED. THE GIVEN ROWS OF THIS SEAT. 10 by the template 'for every input the law returns true; each argument reads behind the call as it read before'; 0 by the template 'total and deterministic' (their statements: YtpdbiofpoccjeaaTotals.lean).
  GIVEN WITH THE SEED: the statements are not yours to turn. If you find one false, say at which input.
  Laid BY PROGRAM, IN A SANDBOX (cutbox-rows.mjs): the forced cells as the released guide's own fill.sh prints them over the translation 54bcab0c5923b440… (all of the seat's roots in one cut). By AI agents, Wed Nov 11 2026. No macro, syntax, notation, axiom, sorry.
-/
import Derived.Test.YtpdbiofpoccjeaaChecked
import GoSem.Claim
import GoSem.ClaimJoined
import GoSem.ClaimMapViews
import Derived.JoinedTies
import Derived.KernelRfl
namespace Go.Proofs.Ytpdbiofpoccjeaa
/- THE CELL 'sum', in the pinned program and in every row, IS THE sha256 OF THE DUMP (.gsa) THAT YtpdbiofpoccjeaaProg.lean LOADS. Nothing in Lean hashes anything: it is a label: what it is worth is what the hold of that sum in a sandbox is worth. -/
noncomputable def Try.pinned : Pinned := { name := "ytpdbiofpoccjeaa", sum := "54bcab0c5923b440ec163cc169f4a64cbe239bd08881ec2edd9b26a9c09b8627", checked := Try.checked }
namespace Rows
def none {H : Type} : Left H := { results := [], args := [] }

/-- 'fleuronlaw02.RatioMakes': WHATEVER THE INPUT: true; the input reads as it did. -/
def ratioMakesSpec : ChangeSpec := { name := "ratioMakes", fn := fun _ => fun
  | [d1, d2] => { results := [.lit (.bool true)], args := [d1, d2] }
  | _ => none }
def ratioMakesRow : OpenClaim := { program := "ytpdbiofpoccjeaa", sum := "54bcab0c5923b440ec163cc169f4a64cbe239bd08881ec2edd9b26a9c09b8627", func := "fleuron/fleuronlaw02.RatioMakes", spec := "ratioMakes", inPlace := ["math/bits.Sub64", "math/bits.Add64"], unfollowed := true, recurses := true, named := ["math/bits.divideError", "math/bits.overflowError"], apart := false }
def RatioMakesSaid : Prop := ratioMakesRow.holds Try.pinned (OpenSpec.ofChange ratioMakesSpec)

/-- ITS FALSE NEIGHBOUR: 'it returns false'. Refute it at one input. -/
def ratioMakesWrong : ChangeSpec := { name := "ratioMakes", fn := fun _ => fun
  | [d1, d2] => { results := [.lit (.bool false)], args := [d1, d2] }
  | _ => none }
def RatioMakesWrongFalsely : Prop := ratioMakesRow.holds Try.pinned (OpenSpec.ofChange ratioMakesWrong)

/-- 'fleuronlaw02.RatioScales': WHATEVER THE INPUT: true; the input reads as it did. -/
def ratioScalesSpec : ChangeSpec := { name := "ratioScales", fn := fun _ => fun
  | [d1, d2, d3] => { results := [.lit (.bool true)], args := [d1, d2, d3] }
  | _ => none }
def ratioScalesRow : OpenClaim := { program := "ytpdbiofpoccjeaa", sum := "54bcab0c5923b440ec163cc169f4a64cbe239bd08881ec2edd9b26a9c09b8627", func := "fleuron/fleuronlaw02.RatioScales", spec := "ratioScales", inPlace := ["math/bits.Sub64", "math/bits.Add64"], unfollowed := true, recurses := true, named := ["math/bits.divideError", "math/bits.overflowError"], apart := false }
def RatioScalesSaid : Prop := ratioScalesRow.holds Try.pinned (OpenSpec.ofChange ratioScalesSpec)

/-- ITS FALSE NEIGHBOUR: 'it returns false'. Refute it at one input. -/
def ratioScalesWrong : ChangeSpec := { name := "ratioScales", fn := fun _ => fun
  | [d1, d2, d3] => { results := [.lit (.bool false)], args := [d1, d2, d3] }
  | _ => none }
def RatioScalesWrongFalsely : Prop := ratioScalesRow.holds Try.pinned (OpenSpec.ofChange ratioScalesWrong)

/-- 'fleuronlaw02.RatioLeast': WHATEVER THE INPUT: true; the input reads as it did. -/
def ratioLeastSpec : ChangeSpec := { name := "ratioLeast", fn := fun _ => fun
  | [d1, d2, d3] => { results := [.lit (.bool true)], args := [d1, d2, d3] }
  | _ => none }
def ratioLeastRow : OpenClaim := { program := "ytpdbiofpoccjeaa", sum := "54bcab0c5923b440ec163cc169f4a64cbe239bd08881ec2edd9b26a9c09b8627", func := "fleuron/fleuronlaw02.RatioLeast", spec := "ratioLeast", inPlace := ["math/bits.Sub64", "math/bits.Add64"], unfollowed := true, recurses := true, named := ["math/bits.divideError", "math/bits.overflowError"], apart := false }
def RatioLeastSaid : Prop := ratioLeastRow.holds Try.pinned (OpenSpec.ofChange ratioLeastSpec)

/-- ITS FALSE NEIGHBOUR: 'it returns false'. Refute it at one input. -/
def ratioLeastWrong : ChangeSpec := { name := "ratioLeast", fn := fun _ => fun
  | [d1, d2, d3] => { results := [.lit (.bool false)], args := [d1, d2, d3] }
  | _ => none }
def RatioLeastWrongFalsely : Prop := ratioLeastRow.holds Try.pinned (OpenSpec.ofChange ratioLeastWrong)

/-- 'fleuronlaw02.RatioScaled': WHATEVER THE INPUT: true; the input reads as it did. -/
def ratioScaledSpec : ChangeSpec := { name := "ratioScaled", fn := fun _ => fun
  | [d1, d2] => { results := [.lit (.bool true)], args := [d1, d2] }
  | _ => none }
def ratioScaledRow : OpenClaim := { program := "ytpdbiofpoccjeaa", sum := "54bcab0c5923b440ec163cc169f4a64cbe239bd08881ec2edd9b26a9c09b8627", func := "fleuron/fleuronlaw02.RatioScaled", spec := "ratioScaled", inPlace := ["math/bits.Sub64", "math/bits.Add64"], unfollowed := true, recurses := true, named := ["math/bits.divideError", "math/bits.overflowError"], apart := false }
def RatioScaledSaid : Prop := ratioScaledRow.holds Try.pinned (OpenSpec.ofChange ratioScaledSpec)

/-- ITS FALSE NEIGHBOUR: 'it returns false'. Refute it at one input. -/
def ratioScaledWrong : ChangeSpec := { name := "ratioScaled", fn := fun _ => fun
  | [d1, d2] => { results := [.lit (.bool false)], args := [d1, d2] }
  | _ => none }
def RatioScaledWrongFalsely : Prop := ratioScaledRow.holds Try.pinned (OpenSpec.ofChange ratioScaledWrong)

/-- 'fleuronlaw02.RatioRings': WHATEVER THE INPUT: true; the input reads as it did. -/
def ratioRingsSpec : ChangeSpec := { name := "ratioRings", fn := fun _ => fun
  | [d1, d2, d3] => { results := [.lit (.bool true)], args := [d1, d2, d3] }
  | _ => none }
def ratioRingsRow : OpenClaim := { program := "ytpdbiofpoccjeaa", sum := "54bcab0c5923b440ec163cc169f4a64cbe239bd08881ec2edd9b26a9c09b8627", func := "fleuron/fleuronlaw02.RatioRings", spec := "ratioRings", inPlace := ["math/bits.Sub64", "math/bits.Add64"], unfollowed := true, recurses := true, named := ["math/bits.divideError", "math/bits.overflowError"], apart := false }
def RatioRingsSaid : Prop := ratioRingsRow.holds Try.pinned (OpenSpec.ofChange ratioRingsSpec)

/-- ITS FALSE NEIGHBOUR: 'it returns false'. Refute it at one input. -/
def ratioRingsWrong : ChangeSpec := { name := "ratioRings", fn := fun _ => fun
  | [d1, d2, d3] => { results := [.lit (.bool false)], args := [d1, d2, d3] }
  | _ => none }
def RatioRingsWrongFalsely : Prop := ratioRingsRow.holds Try.pinned (OpenSpec.ofChange ratioRingsWrong)

/-- 'fleuronlaw02.RatioHeld': WHATEVER THE INPUT: true; the input reads as it did. -/
def ratioHeldSpec : ChangeSpec := { name := "ratioHeld", fn := fun _ => fun
  | [d1, d2] => { results := [.lit (.bool true)], args := [d1, d2] }
  | _ => none }
def ratioHeldRow : OpenClaim := { program := "ytpdbiofpoccjeaa", sum := "54bcab0c5923b440ec163cc169f4a64cbe239bd08881ec2edd9b26a9c09b8627", func := "fleuron/fleuronlaw02.RatioHeld", spec := "ratioHeld", inPlace := ["math/bits.Sub64", "math/bits.Add64"], unfollowed := true, recurses := true, named := ["math/bits.divideError", "math/bits.overflowError"], apart := false }
def RatioHeldSaid : Prop := ratioHeldRow.holds Try.pinned (OpenSpec.ofChange ratioHeldSpec)

/-- ITS FALSE NEIGHBOUR: 'it returns false'. Refute it at one input. -/
def ratioHeldWrong : ChangeSpec := { name := "ratioHeld", fn := fun _ => fun
  | [d1, d2] => { results := [.lit (.bool false)], args := [d1, d2] }
  | _ => none }
def RatioHeldWrongFalsely : Prop := ratioHeldRow.holds Try.pinned (OpenSpec.ofChange ratioHeldWrong)

/-- 'fleuronlaw02.RatioFloors': WHATEVER THE INPUT: true; the input reads as it did. -/
def ratioFloorsSpec : ChangeSpec := { name := "ratioFloors", fn := fun _ => fun
  | [d] => { results := [.lit (.bool true)], args := [d] }
  | _ => none }
def ratioFloorsRow : OpenClaim := { program := "ytpdbiofpoccjeaa", sum := "54bcab0c5923b440ec163cc169f4a64cbe239bd08881ec2edd9b26a9c09b8627", func := "fleuron/fleuronlaw02.RatioFloors", spec := "ratioFloors", inPlace := ["math/bits.Sub64", "math/bits.Add64"], unfollowed := true, recurses := true, named := ["math/bits.divideError", "math/bits.overflowError"], apart := false }
def RatioFloorsSaid : Prop := ratioFloorsRow.holds Try.pinned (OpenSpec.ofChange ratioFloorsSpec)

/-- ITS FALSE NEIGHBOUR: 'it returns false'. Refute it at one input. -/
def ratioFloorsWrong : ChangeSpec := { name := "ratioFloors", fn := fun _ => fun
  | [d] => { results := [.lit (.bool false)], args := [d] }
  | _ => none }
def RatioFloorsWrongFalsely : Prop := ratioFloorsRow.holds Try.pinned (OpenSpec.ofChange ratioFloorsWrong)

/-- 'fleuronlaw02.RatioReckons': WHATEVER THE INPUT: true; the input reads as it did. -/
def ratioReckonsSpec : ChangeSpec := { name := "ratioReckons", fn := fun _ => fun
  | [d1, d2] => { results := [.lit (.bool true)], args := [d1, d2] }
  | _ => none }
def ratioReckonsRow : OpenClaim := { program := "ytpdbiofpoccjeaa", sum := "54bcab0c5923b440ec163cc169f4a64cbe239bd08881ec2edd9b26a9c09b8627", func := "fleuron/fleuronlaw02.RatioReckons", spec := "ratioReckons", inPlace := ["math/bits.Sub64", "math/bits.Add64"], unfollowed := true, recurses := true, named := ["math/bits.divideError", "math/bits.overflowError"], apart := false }
def RatioReckonsSaid : Prop := ratioReckonsRow.holds Try.pinned (OpenSpec.ofChange ratioReckonsSpec)

/-- ITS FALSE NEIGHBOUR: 'it returns false'. Refute it at one input. -/
def ratioReckonsWrong : ChangeSpec := { name := "ratioReckons", fn := fun _ => fun
  | [d1, d2] => { results := [.lit (.bool false)], args := [d1, d2] }
  | _ => none }
def RatioReckonsWrongFalsely : Prop := ratioReckonsRow.holds Try.pinned (OpenSpec.ofChange ratioReckonsWrong)

/-- 'fleuronlaw02.RatioBack': WHATEVER THE INPUT: true; the input reads as it did. -/
def ratioBackSpec : ChangeSpec := { name := "ratioBack", fn := fun _ => fun
  | [d1, d2] => { results := [.lit (.bool true)], args := [d1, d2] }
  | _ => none }
def ratioBackRow : OpenClaim := { program := "ytpdbiofpoccjeaa", sum := "54bcab0c5923b440ec163cc169f4a64cbe239bd08881ec2edd9b26a9c09b8627", func := "fleuron/fleuronlaw02.RatioBack", spec := "ratioBack", inPlace := ["math/bits.Sub64", "math/bits.Add64"], unfollowed := true, recurses := true, named := ["math/bits.divideError", "math/bits.overflowError"], apart := false }
def RatioBackSaid : Prop := ratioBackRow.holds Try.pinned (OpenSpec.ofChange ratioBackSpec)

/-- ITS FALSE NEIGHBOUR: 'it returns false'. Refute it at one input. -/
def ratioBackWrong : ChangeSpec := { name := "ratioBack", fn := fun _ => fun
  | [d1, d2] => { results := [.lit (.bool false)], args := [d1, d2] }
  | _ => none }
def RatioBackWrongFalsely : Prop := ratioBackRow.holds Try.pinned (OpenSpec.ofChange ratioBackWrong)

/-- 'fleuronlaw02.RatioOrder': WHATEVER THE INPUT: true; the input reads as it did. -/
def ratioOrderSpec : ChangeSpec := { name := "ratioOrder", fn := fun _ => fun
  | [d1, d2, d3] => { results := [.lit (.bool true)], args := [d1, d2, d3] }
  | _ => none }
def ratioOrderRow : OpenClaim := { program := "ytpdbiofpoccjeaa", sum := "54bcab0c5923b440ec163cc169f4a64cbe239bd08881ec2edd9b26a9c09b8627", func := "fleuron/fleuronlaw02.RatioOrder", spec := "ratioOrder", inPlace := ["math/bits.Sub64", "math/bits.Add64"], unfollowed := true, recurses := true, named := ["math/bits.divideError", "math/bits.overflowError"], apart := false }
def RatioOrderSaid : Prop := ratioOrderRow.holds Try.pinned (OpenSpec.ofChange ratioOrderSpec)

/-- ITS FALSE NEIGHBOUR: 'it returns false'. Refute it at one input. -/
def ratioOrderWrong : ChangeSpec := { name := "ratioOrder", fn := fun _ => fun
  | [d1, d2, d3] => { results := [.lit (.bool false)], args := [d1, d2, d3] }
  | _ => none }
def RatioOrderWrongFalsely : Prop := ratioOrderRow.holds Try.pinned (OpenSpec.ofChange ratioOrderWrong)

/- THE SECOND FORM. 'bulk': how many values and letters a reading holds, each counted each time it is reached (what is shared counts as often as it is met; a slice's spare places count too). A statement '..UptoSaid' is the law's where the arguments, and the package variables that the reading takes, are together of bulk at most 1048576: NARROWER than '..Said'. Prove '..Said' where nothing that the law and all that it calls make is longer than what came in: it says more and counts as full. Else prove '..UptoSaid'. A law counts once. -/
mutual
def uptoBulk {H : Type} : DataW H → Nat
  | .lit (.string bytes) => bytes.length + 1
  | .lit _ => 1
  | .nil => 1
  | .ptr d => uptoBulk d + 1
  | .slice elems spare => uptoBulkAll elems + uptoBulkAll spare + 1
  | .agg parts => uptoBulkAll parts + 1
  | .iface _ d => uptoBulk d + 1
  | .map entries => uptoBulkEntries entries + 1
  | .held _ => 1
def uptoBulkAll {H : Type} : List (DataW H) → Nat
  | [] => 0
  | d :: r => uptoBulk d + uptoBulkAll r
def uptoBulkEntries {H : Type} : List (Lit × DataW H) → Nat
  | [] => 0
  | x :: r => uptoBulkEntry x + uptoBulkEntries r
def uptoBulkEntry {H : Type} : Lit × DataW H → Nat
  | (.string bytes, d) => bytes.length + uptoBulk d + 1
  | (_, d) => uptoBulk d + 1
 end
def uptoSmall : (H : Type) → List (DataW H) → Bool := fun _ ds => decide (uptoBulkAll ds ≤ 1048576)
def OpenSpec.upto (s : _root_.Go.ChangeSpec) : _root_.Go.OpenSpec := { _root_.Go.OpenSpec.ofChange s with cond := some uptoSmall }

/-- 'fleuronlaw02.RatioMakes', WHERE WHAT IT READS IS OF BULK AT MOST 1048576: true; the input reads as it did. -/
def ratioMakesUptoRow : OpenClaim := { program := "ytpdbiofpoccjeaa", sum := "54bcab0c5923b440ec163cc169f4a64cbe239bd08881ec2edd9b26a9c09b8627", func := "fleuron/fleuronlaw02.RatioMakes", spec := "ratioMakes", inPlace := ["math/bits.Sub64", "math/bits.Add64"], unfollowed := true, recurses := true, named := ["math/bits.divideError", "math/bits.overflowError"], apart := false, narrowed := true }
def RatioMakesUptoSaid : Prop := ratioMakesUptoRow.holds Try.pinned (OpenSpec.upto ratioMakesSpec)

/-- 'fleuronlaw02.RatioScales', WHERE WHAT IT READS IS OF BULK AT MOST 1048576: true; the input reads as it did. -/
def ratioScalesUptoRow : OpenClaim := { program := "ytpdbiofpoccjeaa", sum := "54bcab0c5923b440ec163cc169f4a64cbe239bd08881ec2edd9b26a9c09b8627", func := "fleuron/fleuronlaw02.RatioScales", spec := "ratioScales", inPlace := ["math/bits.Sub64", "math/bits.Add64"], unfollowed := true, recurses := true, named := ["math/bits.divideError", "math/bits.overflowError"], apart := false, narrowed := true }
def RatioScalesUptoSaid : Prop := ratioScalesUptoRow.holds Try.pinned (OpenSpec.upto ratioScalesSpec)

/-- 'fleuronlaw02.RatioLeast', WHERE WHAT IT READS IS OF BULK AT MOST 1048576: true; the input reads as it did. -/
def ratioLeastUptoRow : OpenClaim := { program := "ytpdbiofpoccjeaa", sum := "54bcab0c5923b440ec163cc169f4a64cbe239bd08881ec2edd9b26a9c09b8627", func := "fleuron/fleuronlaw02.RatioLeast", spec := "ratioLeast", inPlace := ["math/bits.Sub64", "math/bits.Add64"], unfollowed := true, recurses := true, named := ["math/bits.divideError", "math/bits.overflowError"], apart := false, narrowed := true }
def RatioLeastUptoSaid : Prop := ratioLeastUptoRow.holds Try.pinned (OpenSpec.upto ratioLeastSpec)

/-- 'fleuronlaw02.RatioScaled', WHERE WHAT IT READS IS OF BULK AT MOST 1048576: true; the input reads as it did. -/
def ratioScaledUptoRow : OpenClaim := { program := "ytpdbiofpoccjeaa", sum := "54bcab0c5923b440ec163cc169f4a64cbe239bd08881ec2edd9b26a9c09b8627", func := "fleuron/fleuronlaw02.RatioScaled", spec := "ratioScaled", inPlace := ["math/bits.Sub64", "math/bits.Add64"], unfollowed := true, recurses := true, named := ["math/bits.divideError", "math/bits.overflowError"], apart := false, narrowed := true }
def RatioScaledUptoSaid : Prop := ratioScaledUptoRow.holds Try.pinned (OpenSpec.upto ratioScaledSpec)

/-- 'fleuronlaw02.RatioRings', WHERE WHAT IT READS IS OF BULK AT MOST 1048576: true; the input reads as it did. -/
def ratioRingsUptoRow : OpenClaim := { program := "ytpdbiofpoccjeaa", sum := "54bcab0c5923b440ec163cc169f4a64cbe239bd08881ec2edd9b26a9c09b8627", func := "fleuron/fleuronlaw02.RatioRings", spec := "ratioRings", inPlace := ["math/bits.Sub64", "math/bits.Add64"], unfollowed := true, recurses := true, named := ["math/bits.divideError", "math/bits.overflowError"], apart := false, narrowed := true }
def RatioRingsUptoSaid : Prop := ratioRingsUptoRow.holds Try.pinned (OpenSpec.upto ratioRingsSpec)

/-- 'fleuronlaw02.RatioHeld', WHERE WHAT IT READS IS OF BULK AT MOST 1048576: true; the input reads as it did. -/
def ratioHeldUptoRow : OpenClaim := { program := "ytpdbiofpoccjeaa", sum := "54bcab0c5923b440ec163cc169f4a64cbe239bd08881ec2edd9b26a9c09b8627", func := "fleuron/fleuronlaw02.RatioHeld", spec := "ratioHeld", inPlace := ["math/bits.Sub64", "math/bits.Add64"], unfollowed := true, recurses := true, named := ["math/bits.divideError", "math/bits.overflowError"], apart := false, narrowed := true }
def RatioHeldUptoSaid : Prop := ratioHeldUptoRow.holds Try.pinned (OpenSpec.upto ratioHeldSpec)

/-- 'fleuronlaw02.RatioFloors', WHERE WHAT IT READS IS OF BULK AT MOST 1048576: true; the input reads as it did. -/
def ratioFloorsUptoRow : OpenClaim := { program := "ytpdbiofpoccjeaa", sum := "54bcab0c5923b440ec163cc169f4a64cbe239bd08881ec2edd9b26a9c09b8627", func := "fleuron/fleuronlaw02.RatioFloors", spec := "ratioFloors", inPlace := ["math/bits.Sub64", "math/bits.Add64"], unfollowed := true, recurses := true, named := ["math/bits.divideError", "math/bits.overflowError"], apart := false, narrowed := true }
def RatioFloorsUptoSaid : Prop := ratioFloorsUptoRow.holds Try.pinned (OpenSpec.upto ratioFloorsSpec)

/-- 'fleuronlaw02.RatioReckons', WHERE WHAT IT READS IS OF BULK AT MOST 1048576: true; the input reads as it did. -/
def ratioReckonsUptoRow : OpenClaim := { program := "ytpdbiofpoccjeaa", sum := "54bcab0c5923b440ec163cc169f4a64cbe239bd08881ec2edd9b26a9c09b8627", func := "fleuron/fleuronlaw02.RatioReckons", spec := "ratioReckons", inPlace := ["math/bits.Sub64", "math/bits.Add64"], unfollowed := true, recurses := true, named := ["math/bits.divideError", "math/bits.overflowError"], apart := false, narrowed := true }
def RatioReckonsUptoSaid : Prop := ratioReckonsUptoRow.holds Try.pinned (OpenSpec.upto ratioReckonsSpec)

/-- 'fleuronlaw02.RatioBack', WHERE WHAT IT READS IS OF BULK AT MOST 1048576: true; the input reads as it did. -/
def ratioBackUptoRow : OpenClaim := { program := "ytpdbiofpoccjeaa", sum := "54bcab0c5923b440ec163cc169f4a64cbe239bd08881ec2edd9b26a9c09b8627", func := "fleuron/fleuronlaw02.RatioBack", spec := "ratioBack", inPlace := ["math/bits.Sub64", "math/bits.Add64"], unfollowed := true, recurses := true, named := ["math/bits.divideError", "math/bits.overflowError"], apart := false, narrowed := true }
def RatioBackUptoSaid : Prop := ratioBackUptoRow.holds Try.pinned (OpenSpec.upto ratioBackSpec)

/-- 'fleuronlaw02.RatioOrder', WHERE WHAT IT READS IS OF BULK AT MOST 1048576: true; the input reads as it did. -/
def ratioOrderUptoRow : OpenClaim := { program := "ytpdbiofpoccjeaa", sum := "54bcab0c5923b440ec163cc169f4a64cbe239bd08881ec2edd9b26a9c09b8627", func := "fleuron/fleuronlaw02.RatioOrder", spec := "ratioOrder", inPlace := ["math/bits.Sub64", "math/bits.Add64"], unfollowed := true, recurses := true, named := ["math/bits.divideError", "math/bits.overflowError"], apart := false, narrowed := true }
def RatioOrderUptoSaid : Prop := ratioOrderUptoRow.holds Try.pinned (OpenSpec.upto ratioOrderSpec)

end Rows
end Go.Proofs.Ytpdbiofpoccjeaa
