/-
  No cell of these rows narrows 'for every input' (looked for: loops, veiled, ifaces, maps, wideKeys, modest, calm, conditions, laid).
  DERIVED. THE GIVEN ROWS OF THIS SEAT. 17 by the template 'for every input the law returns true; each argument reads behind the call as it read before'; 0 by the template 'total and deterministic' (their statements: YtadcbnldahcelaaTotals.lean).
  GIVEN WITH THE SEED: the statements are not yours to turn. If you find one false, say at which input.
  Laid BY PROGRAM, IN A SANDBOX (cutbox-rows.mjs): the forced cells as the released guide's own fill.sh prints them over the translation eaa3f5924dd4ccc9… (all of the seat's roots in one cut). By AI agents, Wed Nov 11 2026. No macro, syntax, notation, axiom, sorry.
-/
import Derived.Test.YtadcbnldahcelaaChecked
import GoSem.Claim
import GoSem.ClaimJoined
import GoSem.ClaimMapViews
import Derived.JoinedTies
import Derived.KernelRfl
namespace Go.Proofs.Ytadcbnldahcelaa
/- THE CELL 'sum', in the pinned program and in every row, IS THE sha256 OF THE DUMP (.gsa) THAT YtadcbnldahcelaaProg.lean LOADS. Nothing in Lean hashes anything: it is a label: what it is worth is what the hold of that sum in a sandbox is worth. -/
noncomputable def Try.pinned : Pinned := { name := "ytadcbnldahcelaa", sum := "eaa3f5924dd4ccc91555cda2c7fcff3ce7fdd3e6680b7502a4b22e39bec7d83c", checked := Try.checked }
namespace Rows
def none {H : Type} : Left H := { results := [], args := [] }

/-- 'delayslotlaw07.SeqRuns': WHATEVER THE INPUT: true; the input reads as it did. -/
def seqRunsSpec : ChangeSpec := { name := "seqRuns", fn := fun _ => fun
  | [d1, d2, d3, d4] => { results := [.lit (.bool true)], args := [d1, d2, d3, d4] }
  | _ => none }
def seqRunsRow : OpenClaim := { program := "ytadcbnldahcelaa", sum := "eaa3f5924dd4ccc91555cda2c7fcff3ce7fdd3e6680b7502a4b22e39bec7d83c", func := "delayslot/delayslotlaw07.SeqRuns", spec := "seqRuns", apart := false }
def SeqRunsSaid : Prop := seqRunsRow.holds Try.pinned (OpenSpec.ofChange seqRunsSpec)

/-- ITS FALSE NEIGHBOUR: 'it returns false'. Refute it at one input. -/
def seqRunsWrong : ChangeSpec := { name := "seqRuns", fn := fun _ => fun
  | [d1, d2, d3, d4] => { results := [.lit (.bool false)], args := [d1, d2, d3, d4] }
  | _ => none }
def SeqRunsWrongFalsely : Prop := seqRunsRow.holds Try.pinned (OpenSpec.ofChange seqRunsWrong)

/-- 'delayslotlaw07.SeqMore': WHATEVER THE INPUT: true; the input reads as it did. -/
def seqMoreSpec : ChangeSpec := { name := "seqMore", fn := fun _ => fun
  | [d1, d2, d3, d4, d5] => { results := [.lit (.bool true)], args := [d1, d2, d3, d4, d5] }
  | _ => none }
def seqMoreRow : OpenClaim := { program := "ytadcbnldahcelaa", sum := "eaa3f5924dd4ccc91555cda2c7fcff3ce7fdd3e6680b7502a4b22e39bec7d83c", func := "delayslot/delayslotlaw07.SeqMore", spec := "seqMore", apart := false }
def SeqMoreSaid : Prop := seqMoreRow.holds Try.pinned (OpenSpec.ofChange seqMoreSpec)

/-- ITS FALSE NEIGHBOUR: 'it returns false'. Refute it at one input. -/
def seqMoreWrong : ChangeSpec := { name := "seqMore", fn := fun _ => fun
  | [d1, d2, d3, d4, d5] => { results := [.lit (.bool false)], args := [d1, d2, d3, d4, d5] }
  | _ => none }
def SeqMoreWrongFalsely : Prop := seqMoreRow.holds Try.pinned (OpenSpec.ofChange seqMoreWrong)

/-- 'delayslotlaw07.SeqLines': WHATEVER THE INPUT: true; the input reads as it did. -/
def seqLinesSpec : ChangeSpec := { name := "seqLines", fn := fun _ => fun
  | [d] => { results := [.lit (.bool true)], args := [d] }
  | _ => none }
def seqLinesRow : OpenClaim := { program := "ytadcbnldahcelaa", sum := "eaa3f5924dd4ccc91555cda2c7fcff3ce7fdd3e6680b7502a4b22e39bec7d83c", func := "delayslot/delayslotlaw07.SeqLines", spec := "seqLines", apart := false }
def SeqLinesSaid : Prop := seqLinesRow.holds Try.pinned (OpenSpec.ofChange seqLinesSpec)

/-- ITS FALSE NEIGHBOUR: 'it returns false'. Refute it at one input. -/
def seqLinesWrong : ChangeSpec := { name := "seqLines", fn := fun _ => fun
  | [d] => { results := [.lit (.bool false)], args := [d] }
  | _ => none }
def SeqLinesWrongFalsely : Prop := seqLinesRow.holds Try.pinned (OpenSpec.ofChange seqLinesWrong)

/-- 'delayslotlaw07.SeqTells': WHATEVER THE INPUT: true; the input reads as it did. -/
def seqTellsSpec : ChangeSpec := { name := "seqTells", fn := fun _ => fun
  | [d] => { results := [.lit (.bool true)], args := [d] }
  | _ => none }
def seqTellsRow : OpenClaim := { program := "ytadcbnldahcelaa", sum := "eaa3f5924dd4ccc91555cda2c7fcff3ce7fdd3e6680b7502a4b22e39bec7d83c", func := "delayslot/delayslotlaw07.SeqTells", spec := "seqTells", apart := false }
def SeqTellsSaid : Prop := seqTellsRow.holds Try.pinned (OpenSpec.ofChange seqTellsSpec)

/-- ITS FALSE NEIGHBOUR: 'it returns false'. Refute it at one input. -/
def seqTellsWrong : ChangeSpec := { name := "seqTells", fn := fun _ => fun
  | [d] => { results := [.lit (.bool false)], args := [d] }
  | _ => none }
def SeqTellsWrongFalsely : Prop := seqTellsRow.holds Try.pinned (OpenSpec.ofChange seqTellsWrong)

/-- 'delayslotlaw07.SeqReckons': WHATEVER THE INPUT: true; the input reads as it did. -/
def seqReckonsSpec : ChangeSpec := { name := "seqReckons", fn := fun _ => fun
  | [d1, d2, d3] => { results := [.lit (.bool true)], args := [d1, d2, d3] }
  | _ => none }
def seqReckonsRow : OpenClaim := { program := "ytadcbnldahcelaa", sum := "eaa3f5924dd4ccc91555cda2c7fcff3ce7fdd3e6680b7502a4b22e39bec7d83c", func := "delayslot/delayslotlaw07.SeqReckons", spec := "seqReckons", apart := false }
def SeqReckonsSaid : Prop := seqReckonsRow.holds Try.pinned (OpenSpec.ofChange seqReckonsSpec)

/-- ITS FALSE NEIGHBOUR: 'it returns false'. Refute it at one input. -/
def seqReckonsWrong : ChangeSpec := { name := "seqReckons", fn := fun _ => fun
  | [d1, d2, d3] => { results := [.lit (.bool false)], args := [d1, d2, d3] }
  | _ => none }
def SeqReckonsWrongFalsely : Prop := seqReckonsRow.holds Try.pinned (OpenSpec.ofChange seqReckonsWrong)

/-- 'delayslotlaw07.SeqRoom': WHATEVER THE INPUT: true; the input reads as it did. -/
def seqRoomSpec : ChangeSpec := { name := "seqRoom", fn := fun _ => fun
  | [d1, d2, d3, d4, d5] => { results := [.lit (.bool true)], args := [d1, d2, d3, d4, d5] }
  | _ => none }
def seqRoomRow : OpenClaim := { program := "ytadcbnldahcelaa", sum := "eaa3f5924dd4ccc91555cda2c7fcff3ce7fdd3e6680b7502a4b22e39bec7d83c", func := "delayslot/delayslotlaw07.SeqRoom", spec := "seqRoom", apart := false }
def SeqRoomSaid : Prop := seqRoomRow.holds Try.pinned (OpenSpec.ofChange seqRoomSpec)

/-- ITS FALSE NEIGHBOUR: 'it returns false'. Refute it at one input. -/
def seqRoomWrong : ChangeSpec := { name := "seqRoom", fn := fun _ => fun
  | [d1, d2, d3, d4, d5] => { results := [.lit (.bool false)], args := [d1, d2, d3, d4, d5] }
  | _ => none }
def SeqRoomWrongFalsely : Prop := seqRoomRow.holds Try.pinned (OpenSpec.ofChange seqRoomWrong)

/-- 'delayslotlaw07.SeqInput': WHATEVER THE INPUT: true; the input reads as it did. -/
def seqInputSpec : ChangeSpec := { name := "seqInput", fn := fun _ => fun
  | [d1, d2, d3, d4, d5] => { results := [.lit (.bool true)], args := [d1, d2, d3, d4, d5] }
  | _ => none }
def seqInputRow : OpenClaim := { program := "ytadcbnldahcelaa", sum := "eaa3f5924dd4ccc91555cda2c7fcff3ce7fdd3e6680b7502a4b22e39bec7d83c", func := "delayslot/delayslotlaw07.SeqInput", spec := "seqInput", apart := false }
def SeqInputSaid : Prop := seqInputRow.holds Try.pinned (OpenSpec.ofChange seqInputSpec)

/-- ITS FALSE NEIGHBOUR: 'it returns false'. Refute it at one input. -/
def seqInputWrong : ChangeSpec := { name := "seqInput", fn := fun _ => fun
  | [d1, d2, d3, d4, d5] => { results := [.lit (.bool false)], args := [d1, d2, d3, d4, d5] }
  | _ => none }
def SeqInputWrongFalsely : Prop := seqInputRow.holds Try.pinned (OpenSpec.ofChange seqInputWrong)

/-- 'delayslotlaw07.SeqBehind': WHATEVER THE INPUT: true; the input reads as it did. -/
def seqBehindSpec : ChangeSpec := { name := "seqBehind", fn := fun _ => fun
  | [d1, d2, d3, d4, d5] => { results := [.lit (.bool true)], args := [d1, d2, d3, d4, d5] }
  | _ => none }
def seqBehindRow : OpenClaim := { program := "ytadcbnldahcelaa", sum := "eaa3f5924dd4ccc91555cda2c7fcff3ce7fdd3e6680b7502a4b22e39bec7d83c", func := "delayslot/delayslotlaw07.SeqBehind", spec := "seqBehind", apart := false }
def SeqBehindSaid : Prop := seqBehindRow.holds Try.pinned (OpenSpec.ofChange seqBehindSpec)

/-- ITS FALSE NEIGHBOUR: 'it returns false'. Refute it at one input. -/
def seqBehindWrong : ChangeSpec := { name := "seqBehind", fn := fun _ => fun
  | [d1, d2, d3, d4, d5] => { results := [.lit (.bool false)], args := [d1, d2, d3, d4, d5] }
  | _ => none }
def SeqBehindWrongFalsely : Prop := seqBehindRow.holds Try.pinned (OpenSpec.ofChange seqBehindWrong)

/-- 'delayslotlaw07.SeqNone': WHATEVER THE INPUT: true; the input reads as it did. -/
def seqNoneSpec : ChangeSpec := { name := "seqNone", fn := fun _ => fun
  | [d1, d2, d3] => { results := [.lit (.bool true)], args := [d1, d2, d3] }
  | _ => none }
def seqNoneRow : OpenClaim := { program := "ytadcbnldahcelaa", sum := "eaa3f5924dd4ccc91555cda2c7fcff3ce7fdd3e6680b7502a4b22e39bec7d83c", func := "delayslot/delayslotlaw07.SeqNone", spec := "seqNone", apart := false }
def SeqNoneSaid : Prop := seqNoneRow.holds Try.pinned (OpenSpec.ofChange seqNoneSpec)

/-- ITS FALSE NEIGHBOUR: 'it returns false'. Refute it at one input. -/
def seqNoneWrong : ChangeSpec := { name := "seqNone", fn := fun _ => fun
  | [d1, d2, d3] => { results := [.lit (.bool false)], args := [d1, d2, d3] }
  | _ => none }
def SeqNoneWrongFalsely : Prop := seqNoneRow.holds Try.pinned (OpenSpec.ofChange seqNoneWrong)

/-- 'delayslotlaw07.SeqLoop': WHATEVER THE INPUT: true; the input reads as it did. -/
def seqLoopSpec : ChangeSpec := { name := "seqLoop", fn := fun _ => fun
  | [d] => { results := [.lit (.bool true)], args := [d] }
  | _ => none }
def seqLoopRow : OpenClaim := { program := "ytadcbnldahcelaa", sum := "eaa3f5924dd4ccc91555cda2c7fcff3ce7fdd3e6680b7502a4b22e39bec7d83c", func := "delayslot/delayslotlaw07.SeqLoop", spec := "seqLoop", apart := false }
def SeqLoopSaid : Prop := seqLoopRow.holds Try.pinned (OpenSpec.ofChange seqLoopSpec)

/-- ITS FALSE NEIGHBOUR: 'it returns false'. Refute it at one input. -/
def seqLoopWrong : ChangeSpec := { name := "seqLoop", fn := fun _ => fun
  | [d] => { results := [.lit (.bool false)], args := [d] }
  | _ => none }
def SeqLoopWrongFalsely : Prop := seqLoopRow.holds Try.pinned (OpenSpec.ofChange seqLoopWrong)

/-- 'delayslotlaw08.PipeMore': WHATEVER THE INPUT: true; the input reads as it did. -/
def pipeMoreSpec : ChangeSpec := { name := "pipeMore", fn := fun _ => fun
  | [d1, d2, d3, d4, d5] => { results := [.lit (.bool true)], args := [d1, d2, d3, d4, d5] }
  | _ => none }
def pipeMoreRow : OpenClaim := { program := "ytadcbnldahcelaa", sum := "eaa3f5924dd4ccc91555cda2c7fcff3ce7fdd3e6680b7502a4b22e39bec7d83c", func := "delayslot/delayslotlaw08.PipeMore", spec := "pipeMore", apart := false }
def PipeMoreSaid : Prop := pipeMoreRow.holds Try.pinned (OpenSpec.ofChange pipeMoreSpec)

/-- ITS FALSE NEIGHBOUR: 'it returns false'. Refute it at one input. -/
def pipeMoreWrong : ChangeSpec := { name := "pipeMore", fn := fun _ => fun
  | [d1, d2, d3, d4, d5] => { results := [.lit (.bool false)], args := [d1, d2, d3, d4, d5] }
  | _ => none }
def PipeMoreWrongFalsely : Prop := pipeMoreRow.holds Try.pinned (OpenSpec.ofChange pipeMoreWrong)

/-- 'delayslotlaw08.PipeRoom': WHATEVER THE INPUT: true; the input reads as it did. -/
def pipeRoomSpec : ChangeSpec := { name := "pipeRoom", fn := fun _ => fun
  | [d1, d2, d3, d4, d5, d6] => { results := [.lit (.bool true)], args := [d1, d2, d3, d4, d5, d6] }
  | _ => none }
def pipeRoomRow : OpenClaim := { program := "ytadcbnldahcelaa", sum := "eaa3f5924dd4ccc91555cda2c7fcff3ce7fdd3e6680b7502a4b22e39bec7d83c", func := "delayslot/delayslotlaw08.PipeRoom", spec := "pipeRoom", apart := false }
def PipeRoomSaid : Prop := pipeRoomRow.holds Try.pinned (OpenSpec.ofChange pipeRoomSpec)

/-- ITS FALSE NEIGHBOUR: 'it returns false'. Refute it at one input. -/
def pipeRoomWrong : ChangeSpec := { name := "pipeRoom", fn := fun _ => fun
  | [d1, d2, d3, d4, d5, d6] => { results := [.lit (.bool false)], args := [d1, d2, d3, d4, d5, d6] }
  | _ => none }
def PipeRoomWrongFalsely : Prop := pipeRoomRow.holds Try.pinned (OpenSpec.ofChange pipeRoomWrong)

/-- 'delayslotlaw08.PipeFour': WHATEVER THE INPUT: true; the input reads as it did. -/
def pipeFourSpec : ChangeSpec := { name := "pipeFour", fn := fun _ => fun
  | [d1, d2, d3, d4] => { results := [.lit (.bool true)], args := [d1, d2, d3, d4] }
  | _ => none }
def pipeFourRow : OpenClaim := { program := "ytadcbnldahcelaa", sum := "eaa3f5924dd4ccc91555cda2c7fcff3ce7fdd3e6680b7502a4b22e39bec7d83c", func := "delayslot/delayslotlaw08.PipeFour", spec := "pipeFour", apart := false }
def PipeFourSaid : Prop := pipeFourRow.holds Try.pinned (OpenSpec.ofChange pipeFourSpec)

/-- ITS FALSE NEIGHBOUR: 'it returns false'. Refute it at one input. -/
def pipeFourWrong : ChangeSpec := { name := "pipeFour", fn := fun _ => fun
  | [d1, d2, d3, d4] => { results := [.lit (.bool false)], args := [d1, d2, d3, d4] }
  | _ => none }
def PipeFourWrongFalsely : Prop := pipeFourRow.holds Try.pinned (OpenSpec.ofChange pipeFourWrong)

/-- 'delayslotlaw08.PipeSlots': WHATEVER THE INPUT: true; the input reads as it did. -/
def pipeSlotsSpec : ChangeSpec := { name := "pipeSlots", fn := fun _ => fun
  | [d1, d2, d3] => { results := [.lit (.bool true)], args := [d1, d2, d3] }
  | _ => none }
def pipeSlotsRow : OpenClaim := { program := "ytadcbnldahcelaa", sum := "eaa3f5924dd4ccc91555cda2c7fcff3ce7fdd3e6680b7502a4b22e39bec7d83c", func := "delayslot/delayslotlaw08.PipeSlots", spec := "pipeSlots", apart := false }
def PipeSlotsSaid : Prop := pipeSlotsRow.holds Try.pinned (OpenSpec.ofChange pipeSlotsSpec)

/-- ITS FALSE NEIGHBOUR: 'it returns false'. Refute it at one input. -/
def pipeSlotsWrong : ChangeSpec := { name := "pipeSlots", fn := fun _ => fun
  | [d1, d2, d3] => { results := [.lit (.bool false)], args := [d1, d2, d3] }
  | _ => none }
def PipeSlotsWrongFalsely : Prop := pipeSlotsRow.holds Try.pinned (OpenSpec.ofChange pipeSlotsWrong)

/-- 'delayslotlaw08.PipeLate': WHATEVER THE INPUT: true; the input reads as it did. -/
def pipeLateSpec : ChangeSpec := { name := "pipeLate", fn := fun _ => fun
  | [d1, d2, d3] => { results := [.lit (.bool true)], args := [d1, d2, d3] }
  | _ => none }
def pipeLateRow : OpenClaim := { program := "ytadcbnldahcelaa", sum := "eaa3f5924dd4ccc91555cda2c7fcff3ce7fdd3e6680b7502a4b22e39bec7d83c", func := "delayslot/delayslotlaw08.PipeLate", spec := "pipeLate", apart := false }
def PipeLateSaid : Prop := pipeLateRow.holds Try.pinned (OpenSpec.ofChange pipeLateSpec)

/-- ITS FALSE NEIGHBOUR: 'it returns false'. Refute it at one input. -/
def pipeLateWrong : ChangeSpec := { name := "pipeLate", fn := fun _ => fun
  | [d1, d2, d3] => { results := [.lit (.bool false)], args := [d1, d2, d3] }
  | _ => none }
def PipeLateWrongFalsely : Prop := pipeLateRow.holds Try.pinned (OpenSpec.ofChange pipeLateWrong)

/-- 'delayslotlaw08.PipeSpaced': WHATEVER THE INPUT: true; the input reads as it did. -/
def pipeSpacedSpec : ChangeSpec := { name := "pipeSpaced", fn := fun _ => fun
  | [d1, d2, d3, d4] => { results := [.lit (.bool true)], args := [d1, d2, d3, d4] }
  | _ => none }
def pipeSpacedRow : OpenClaim := { program := "ytadcbnldahcelaa", sum := "eaa3f5924dd4ccc91555cda2c7fcff3ce7fdd3e6680b7502a4b22e39bec7d83c", func := "delayslot/delayslotlaw08.PipeSpaced", spec := "pipeSpaced", apart := false }
def PipeSpacedSaid : Prop := pipeSpacedRow.holds Try.pinned (OpenSpec.ofChange pipeSpacedSpec)

/-- ITS FALSE NEIGHBOUR: 'it returns false'. Refute it at one input. -/
def pipeSpacedWrong : ChangeSpec := { name := "pipeSpaced", fn := fun _ => fun
  | [d1, d2, d3, d4] => { results := [.lit (.bool false)], args := [d1, d2, d3, d4] }
  | _ => none }
def PipeSpacedWrongFalsely : Prop := pipeSpacedRow.holds Try.pinned (OpenSpec.ofChange pipeSpacedWrong)

/-- 'delayslotlaw08.PipeStraight': WHATEVER THE INPUT: true; the input reads as it did. -/
def pipeStraightSpec : ChangeSpec := { name := "pipeStraight", fn := fun _ => fun
  | [d1, d2] => { results := [.lit (.bool true)], args := [d1, d2] }
  | _ => none }
def pipeStraightRow : OpenClaim := { program := "ytadcbnldahcelaa", sum := "eaa3f5924dd4ccc91555cda2c7fcff3ce7fdd3e6680b7502a4b22e39bec7d83c", func := "delayslot/delayslotlaw08.PipeStraight", spec := "pipeStraight", apart := false }
def PipeStraightSaid : Prop := pipeStraightRow.holds Try.pinned (OpenSpec.ofChange pipeStraightSpec)

/-- ITS FALSE NEIGHBOUR: 'it returns false'. Refute it at one input. -/
def pipeStraightWrong : ChangeSpec := { name := "pipeStraight", fn := fun _ => fun
  | [d1, d2] => { results := [.lit (.bool false)], args := [d1, d2] }
  | _ => none }
def PipeStraightWrongFalsely : Prop := pipeStraightRow.holds Try.pinned (OpenSpec.ofChange pipeStraightWrong)

/- THE SECOND FORM. 'bulk': how many values and letters a reading holds, each counted each time it is reached (what is shared counts as often as it is met; a slice's spare places count too). A statement '..UptoSaid' is the law's where the arguments, and the package variables that the reading takes, are together of bulk at most 1048576: NARROWER than '..Said'. Prove '..Said' where nothing that the law and all that it calls make is longer than what came in: it says more and counts as full. Else prove '..UptoSaid'. A law counts once. -/
mutual
def uptoBulk {H : Type} : DataW H → Nat
  | .lit (.string bytes) => bytes.length + 1
  | .lit _ => 1
  | .nil => 1
  | .ptr d => uptoBulk d + 1
  | .slice elems spare => uptoBulkAll elems + uptoBulkAll spare + 1
  | .agg parts => uptoBulkAll parts + 1
  | .iface _ d => uptoBulk d + 1
  | .map entries => uptoBulkEntries entries + 1
  | .held _ => 1
def uptoBulkAll {H : Type} : List (DataW H) → Nat
  | [] => 0
  | d :: r => uptoBulk d + uptoBulkAll r
def uptoBulkEntries {H : Type} : List (Lit × DataW H) → Nat
  | [] => 0
  | x :: r => uptoBulkEntry x + uptoBulkEntries r
def uptoBulkEntry {H : Type} : Lit × DataW H → Nat
  | (.string bytes, d) => bytes.length + uptoBulk d + 1
  | (_, d) => uptoBulk d + 1
 end
def uptoSmall : (H : Type) → List (DataW H) → Bool := fun _ ds => decide (uptoBulkAll ds ≤ 1048576)
def OpenSpec.upto (s : _root_.Go.ChangeSpec) : _root_.Go.OpenSpec := { _root_.Go.OpenSpec.ofChange s with cond := some uptoSmall }

/-- 'delayslotlaw07.SeqRuns', WHERE WHAT IT READS IS OF BULK AT MOST 1048576: true; the input reads as it did. -/
def seqRunsUptoRow : OpenClaim := { program := "ytadcbnldahcelaa", sum := "eaa3f5924dd4ccc91555cda2c7fcff3ce7fdd3e6680b7502a4b22e39bec7d83c", func := "delayslot/delayslotlaw07.SeqRuns", spec := "seqRuns", apart := false, narrowed := true }
def SeqRunsUptoSaid : Prop := seqRunsUptoRow.holds Try.pinned (OpenSpec.upto seqRunsSpec)

/-- 'delayslotlaw07.SeqMore', WHERE WHAT IT READS IS OF BULK AT MOST 1048576: true; the input reads as it did. -/
def seqMoreUptoRow : OpenClaim := { program := "ytadcbnldahcelaa", sum := "eaa3f5924dd4ccc91555cda2c7fcff3ce7fdd3e6680b7502a4b22e39bec7d83c", func := "delayslot/delayslotlaw07.SeqMore", spec := "seqMore", apart := false, narrowed := true }
def SeqMoreUptoSaid : Prop := seqMoreUptoRow.holds Try.pinned (OpenSpec.upto seqMoreSpec)

/-- 'delayslotlaw07.SeqLines', WHERE WHAT IT READS IS OF BULK AT MOST 1048576: true; the input reads as it did. -/
def seqLinesUptoRow : OpenClaim := { program := "ytadcbnldahcelaa", sum := "eaa3f5924dd4ccc91555cda2c7fcff3ce7fdd3e6680b7502a4b22e39bec7d83c", func := "delayslot/delayslotlaw07.SeqLines", spec := "seqLines", apart := false, narrowed := true }
def SeqLinesUptoSaid : Prop := seqLinesUptoRow.holds Try.pinned (OpenSpec.upto seqLinesSpec)

/-- 'delayslotlaw07.SeqTells', WHERE WHAT IT READS IS OF BULK AT MOST 1048576: true; the input reads as it did. -/
def seqTellsUptoRow : OpenClaim := { program := "ytadcbnldahcelaa", sum := "eaa3f5924dd4ccc91555cda2c7fcff3ce7fdd3e6680b7502a4b22e39bec7d83c", func := "delayslot/delayslotlaw07.SeqTells", spec := "seqTells", apart := false, narrowed := true }
def SeqTellsUptoSaid : Prop := seqTellsUptoRow.holds Try.pinned (OpenSpec.upto seqTellsSpec)

/-- 'delayslotlaw07.SeqReckons', WHERE WHAT IT READS IS OF BULK AT MOST 1048576: true; the input reads as it did. -/
def seqReckonsUptoRow : OpenClaim := { program := "ytadcbnldahcelaa", sum := "eaa3f5924dd4ccc91555cda2c7fcff3ce7fdd3e6680b7502a4b22e39bec7d83c", func := "delayslot/delayslotlaw07.SeqReckons", spec := "seqReckons", apart := false, narrowed := true }
def SeqReckonsUptoSaid : Prop := seqReckonsUptoRow.holds Try.pinned (OpenSpec.upto seqReckonsSpec)

/-- 'delayslotlaw07.SeqRoom', WHERE WHAT IT READS IS OF BULK AT MOST 1048576: true; the input reads as it did. -/
def seqRoomUptoRow : OpenClaim := { program := "ytadcbnldahcelaa", sum := "eaa3f5924dd4ccc91555cda2c7fcff3ce7fdd3e6680b7502a4b22e39bec7d83c", func := "delayslot/delayslotlaw07.SeqRoom", spec := "seqRoom", apart := false, narrowed := true }
def SeqRoomUptoSaid : Prop := seqRoomUptoRow.holds Try.pinned (OpenSpec.upto seqRoomSpec)

/-- 'delayslotlaw07.SeqInput', WHERE WHAT IT READS IS OF BULK AT MOST 1048576: true; the input reads as it did. -/
def seqInputUptoRow : OpenClaim := { program := "ytadcbnldahcelaa", sum := "eaa3f5924dd4ccc91555cda2c7fcff3ce7fdd3e6680b7502a4b22e39bec7d83c", func := "delayslot/delayslotlaw07.SeqInput", spec := "seqInput", apart := false, narrowed := true }
def SeqInputUptoSaid : Prop := seqInputUptoRow.holds Try.pinned (OpenSpec.upto seqInputSpec)

/-- 'delayslotlaw07.SeqBehind', WHERE WHAT IT READS IS OF BULK AT MOST 1048576: true; the input reads as it did. -/
def seqBehindUptoRow : OpenClaim := { program := "ytadcbnldahcelaa", sum := "eaa3f5924dd4ccc91555cda2c7fcff3ce7fdd3e6680b7502a4b22e39bec7d83c", func := "delayslot/delayslotlaw07.SeqBehind", spec := "seqBehind", apart := false, narrowed := true }
def SeqBehindUptoSaid : Prop := seqBehindUptoRow.holds Try.pinned (OpenSpec.upto seqBehindSpec)

/-- 'delayslotlaw07.SeqNone', WHERE WHAT IT READS IS OF BULK AT MOST 1048576: true; the input reads as it did. -/
def seqNoneUptoRow : OpenClaim := { program := "ytadcbnldahcelaa", sum := "eaa3f5924dd4ccc91555cda2c7fcff3ce7fdd3e6680b7502a4b22e39bec7d83c", func := "delayslot/delayslotlaw07.SeqNone", spec := "seqNone", apart := false, narrowed := true }
def SeqNoneUptoSaid : Prop := seqNoneUptoRow.holds Try.pinned (OpenSpec.upto seqNoneSpec)

/-- 'delayslotlaw07.SeqLoop', WHERE WHAT IT READS IS OF BULK AT MOST 1048576: true; the input reads as it did. -/
def seqLoopUptoRow : OpenClaim := { program := "ytadcbnldahcelaa", sum := "eaa3f5924dd4ccc91555cda2c7fcff3ce7fdd3e6680b7502a4b22e39bec7d83c", func := "delayslot/delayslotlaw07.SeqLoop", spec := "seqLoop", apart := false, narrowed := true }
def SeqLoopUptoSaid : Prop := seqLoopUptoRow.holds Try.pinned (OpenSpec.upto seqLoopSpec)

/-- 'delayslotlaw08.PipeMore', WHERE WHAT IT READS IS OF BULK AT MOST 1048576: true; the input reads as it did. -/
def pipeMoreUptoRow : OpenClaim := { program := "ytadcbnldahcelaa", sum := "eaa3f5924dd4ccc91555cda2c7fcff3ce7fdd3e6680b7502a4b22e39bec7d83c", func := "delayslot/delayslotlaw08.PipeMore", spec := "pipeMore", apart := false, narrowed := true }
def PipeMoreUptoSaid : Prop := pipeMoreUptoRow.holds Try.pinned (OpenSpec.upto pipeMoreSpec)

/-- 'delayslotlaw08.PipeRoom', WHERE WHAT IT READS IS OF BULK AT MOST 1048576: true; the input reads as it did. -/
def pipeRoomUptoRow : OpenClaim := { program := "ytadcbnldahcelaa", sum := "eaa3f5924dd4ccc91555cda2c7fcff3ce7fdd3e6680b7502a4b22e39bec7d83c", func := "delayslot/delayslotlaw08.PipeRoom", spec := "pipeRoom", apart := false, narrowed := true }
def PipeRoomUptoSaid : Prop := pipeRoomUptoRow.holds Try.pinned (OpenSpec.upto pipeRoomSpec)

/-- 'delayslotlaw08.PipeFour', WHERE WHAT IT READS IS OF BULK AT MOST 1048576: true; the input reads as it did. -/
def pipeFourUptoRow : OpenClaim := { program := "ytadcbnldahcelaa", sum := "eaa3f5924dd4ccc91555cda2c7fcff3ce7fdd3e6680b7502a4b22e39bec7d83c", func := "delayslot/delayslotlaw08.PipeFour", spec := "pipeFour", apart := false, narrowed := true }
def PipeFourUptoSaid : Prop := pipeFourUptoRow.holds Try.pinned (OpenSpec.upto pipeFourSpec)

/-- 'delayslotlaw08.PipeSlots', WHERE WHAT IT READS IS OF BULK AT MOST 1048576: true; the input reads as it did. -/
def pipeSlotsUptoRow : OpenClaim := { program := "ytadcbnldahcelaa", sum := "eaa3f5924dd4ccc91555cda2c7fcff3ce7fdd3e6680b7502a4b22e39bec7d83c", func := "delayslot/delayslotlaw08.PipeSlots", spec := "pipeSlots", apart := false, narrowed := true }
def PipeSlotsUptoSaid : Prop := pipeSlotsUptoRow.holds Try.pinned (OpenSpec.upto pipeSlotsSpec)

/-- 'delayslotlaw08.PipeLate', WHERE WHAT IT READS IS OF BULK AT MOST 1048576: true; the input reads as it did. -/
def pipeLateUptoRow : OpenClaim := { program := "ytadcbnldahcelaa", sum := "eaa3f5924dd4ccc91555cda2c7fcff3ce7fdd3e6680b7502a4b22e39bec7d83c", func := "delayslot/delayslotlaw08.PipeLate", spec := "pipeLate", apart := false, narrowed := true }
def PipeLateUptoSaid : Prop := pipeLateUptoRow.holds Try.pinned (OpenSpec.upto pipeLateSpec)

/-- 'delayslotlaw08.PipeSpaced', WHERE WHAT IT READS IS OF BULK AT MOST 1048576: true; the input reads as it did. -/
def pipeSpacedUptoRow : OpenClaim := { program := "ytadcbnldahcelaa", sum := "eaa3f5924dd4ccc91555cda2c7fcff3ce7fdd3e6680b7502a4b22e39bec7d83c", func := "delayslot/delayslotlaw08.PipeSpaced", spec := "pipeSpaced", apart := false, narrowed := true }
def PipeSpacedUptoSaid : Prop := pipeSpacedUptoRow.holds Try.pinned (OpenSpec.upto pipeSpacedSpec)

/-- 'delayslotlaw08.PipeStraight', WHERE WHAT IT READS IS OF BULK AT MOST 1048576: true; the input reads as it did. -/
def pipeStraightUptoRow : OpenClaim := { program := "ytadcbnldahcelaa", sum := "eaa3f5924dd4ccc91555cda2c7fcff3ce7fdd3e6680b7502a4b22e39bec7d83c", func := "delayslot/delayslotlaw08.PipeStraight", spec := "pipeStraight", apart := false, narrowed := true }
def PipeStraightUptoSaid : Prop := pipeStraightUptoRow.holds Try.pinned (OpenSpec.upto pipeStraightSpec)

end Rows
end Go.Proofs.Ytadcbnldahcelaa
