/-
  No cell of these rows narrows 'for every input' (looked for: loops, veiled, ifaces, maps, wideKeys, modest, calm, conditions, laid).
  DERIVED. THE GIVEN ROWS OF THIS SEAT. 7 by the template 'for every input the law returns true; each argument reads behind the call as it read before'; 0 by the template 'total and deterministic' (their statements: YtijilloaggeepaaTotals.lean).
  GIVEN WITH THE SEED: the statements are not yours to turn. If you find one false, say at which input.
  Laid BY PROGRAM, IN A SANDBOX (cutbox-rows.mjs): the forced cells as the released guide's own fill.sh prints them over the translation 9d59501eb4850d8e… (all of the seat's roots in one cut). By AI agents, Wed Nov 11 2026. No macro, syntax, notation, axiom, sorry.
-/
import Derived.Test.YtijilloaggeepaaChecked
import GoSem.Claim
import GoSem.ClaimJoined
import GoSem.ClaimMapViews
import Derived.JoinedTies
import Derived.KernelRfl
namespace Go.Proofs.Ytijilloaggeepaa
/- THE CELL 'sum', in the pinned program and in every row, IS THE sha256 OF THE DUMP (.gsa) THAT YtijilloaggeepaaProg.lean LOADS. Nothing in Lean hashes anything: it is a label: what it is worth is what the hold of that sum in a sandbox is worth. -/
noncomputable def Try.pinned : Pinned := { name := "ytijilloaggeepaa", sum := "9d59501eb4850d8e3ffd4f3bdaba651e4cd022357726555b26ddb09b73662473", checked := Try.checked }
namespace Rows
def none {H : Type} : Left H := { results := [], args := [] }

/-- 'delayslotlaw18.EmitOwn': WHATEVER THE INPUT: true; the input reads as it did. -/
def emitOwnSpec : ChangeSpec := { name := "emitOwn", fn := fun _ => fun
  | [d1, d2] => { results := [.lit (.bool true)], args := [d1, d2] }
  | _ => none }
def emitOwnRow : OpenClaim := { program := "ytijilloaggeepaa", sum := "9d59501eb4850d8e3ffd4f3bdaba651e4cd022357726555b26ddb09b73662473", func := "delayslot/delayslotlaw18.EmitOwn", spec := "emitOwn", apart := false }
def EmitOwnSaid : Prop := emitOwnRow.holds Try.pinned (OpenSpec.ofChange emitOwnSpec)

/-- ITS FALSE NEIGHBOUR: 'it returns false'. Refute it at one input. -/
def emitOwnWrong : ChangeSpec := { name := "emitOwn", fn := fun _ => fun
  | [d1, d2] => { results := [.lit (.bool false)], args := [d1, d2] }
  | _ => none }
def EmitOwnWrongFalsely : Prop := emitOwnRow.holds Try.pinned (OpenSpec.ofChange emitOwnWrong)

/-- 'delayslotlaw18.EmitRegs': WHATEVER THE INPUT: true; the input reads as it did. -/
def emitRegsSpec : ChangeSpec := { name := "emitRegs", fn := fun _ => fun
  | [d] => { results := [.lit (.bool true)], args := [d] }
  | _ => none }
def emitRegsRow : OpenClaim := { program := "ytijilloaggeepaa", sum := "9d59501eb4850d8e3ffd4f3bdaba651e4cd022357726555b26ddb09b73662473", func := "delayslot/delayslotlaw18.EmitRegs", spec := "emitRegs", apart := false }
def EmitRegsSaid : Prop := emitRegsRow.holds Try.pinned (OpenSpec.ofChange emitRegsSpec)

/-- ITS FALSE NEIGHBOUR: 'it returns false'. Refute it at one input. -/
def emitRegsWrong : ChangeSpec := { name := "emitRegs", fn := fun _ => fun
  | [d] => { results := [.lit (.bool false)], args := [d] }
  | _ => none }
def EmitRegsWrongFalsely : Prop := emitRegsRow.holds Try.pinned (OpenSpec.ofChange emitRegsWrong)

/-- 'delayslotlaw18.EmitShort': WHATEVER THE INPUT: true; the input reads as it did. -/
def emitShortSpec : ChangeSpec := { name := "emitShort", fn := fun _ => fun
  | [d1, d2] => { results := [.lit (.bool true)], args := [d1, d2] }
  | _ => none }
def emitShortRow : OpenClaim := { program := "ytijilloaggeepaa", sum := "9d59501eb4850d8e3ffd4f3bdaba651e4cd022357726555b26ddb09b73662473", func := "delayslot/delayslotlaw18.EmitShort", spec := "emitShort", apart := false }
def EmitShortSaid : Prop := emitShortRow.holds Try.pinned (OpenSpec.ofChange emitShortSpec)

/-- ITS FALSE NEIGHBOUR: 'it returns false'. Refute it at one input. -/
def emitShortWrong : ChangeSpec := { name := "emitShort", fn := fun _ => fun
  | [d1, d2] => { results := [.lit (.bool false)], args := [d1, d2] }
  | _ => none }
def EmitShortWrongFalsely : Prop := emitShortRow.holds Try.pinned (OpenSpec.ofChange emitShortWrong)

/-- 'delayslotlaw18.EmitPlays': WHATEVER THE INPUT: true; the input reads as it did. -/
def emitPlaysSpec : ChangeSpec := { name := "emitPlays", fn := fun _ => fun
  | [d] => { results := [.lit (.bool true)], args := [d] }
  | _ => none }
def emitPlaysRow : OpenClaim := { program := "ytijilloaggeepaa", sum := "9d59501eb4850d8e3ffd4f3bdaba651e4cd022357726555b26ddb09b73662473", func := "delayslot/delayslotlaw18.EmitPlays", spec := "emitPlays", apart := false }
def EmitPlaysSaid : Prop := emitPlaysRow.holds Try.pinned (OpenSpec.ofChange emitPlaysSpec)

/-- ITS FALSE NEIGHBOUR: 'it returns false'. Refute it at one input. -/
def emitPlaysWrong : ChangeSpec := { name := "emitPlays", fn := fun _ => fun
  | [d] => { results := [.lit (.bool false)], args := [d] }
  | _ => none }
def EmitPlaysWrongFalsely : Prop := emitPlaysRow.holds Try.pinned (OpenSpec.ofChange emitPlaysWrong)

/-- 'delayslotlaw18.EmitPatches': WHATEVER THE INPUT: true; the input reads as it did. -/
def emitPatchesSpec : ChangeSpec := { name := "emitPatches", fn := fun _ => fun
  | [d] => { results := [.lit (.bool true)], args := [d] }
  | _ => none }
def emitPatchesRow : OpenClaim := { program := "ytijilloaggeepaa", sum := "9d59501eb4850d8e3ffd4f3bdaba651e4cd022357726555b26ddb09b73662473", func := "delayslot/delayslotlaw18.EmitPatches", spec := "emitPatches", apart := false }
def EmitPatchesSaid : Prop := emitPatchesRow.holds Try.pinned (OpenSpec.ofChange emitPatchesSpec)

/-- ITS FALSE NEIGHBOUR: 'it returns false'. Refute it at one input. -/
def emitPatchesWrong : ChangeSpec := { name := "emitPatches", fn := fun _ => fun
  | [d] => { results := [.lit (.bool false)], args := [d] }
  | _ => none }
def EmitPatchesWrongFalsely : Prop := emitPatchesRow.holds Try.pinned (OpenSpec.ofChange emitPatchesWrong)

/-- 'delayslotlaw18.EmitLands': WHATEVER THE INPUT: true; the input reads as it did. -/
def emitLandsSpec : ChangeSpec := { name := "emitLands", fn := fun _ => fun
  | [d] => { results := [.lit (.bool true)], args := [d] }
  | _ => none }
def emitLandsRow : OpenClaim := { program := "ytijilloaggeepaa", sum := "9d59501eb4850d8e3ffd4f3bdaba651e4cd022357726555b26ddb09b73662473", func := "delayslot/delayslotlaw18.EmitLands", spec := "emitLands", apart := false }
def EmitLandsSaid : Prop := emitLandsRow.holds Try.pinned (OpenSpec.ofChange emitLandsSpec)

/-- ITS FALSE NEIGHBOUR: 'it returns false'. Refute it at one input. -/
def emitLandsWrong : ChangeSpec := { name := "emitLands", fn := fun _ => fun
  | [d] => { results := [.lit (.bool false)], args := [d] }
  | _ => none }
def EmitLandsWrongFalsely : Prop := emitLandsRow.holds Try.pinned (OpenSpec.ofChange emitLandsWrong)

/-- 'delayslotlaw18.EmitConst': WHATEVER THE INPUT: true; the input reads as it did. -/
def emitConstSpec : ChangeSpec := { name := "emitConst", fn := fun _ => fun
  | [d1, d2] => { results := [.lit (.bool true)], args := [d1, d2] }
  | _ => none }
def emitConstRow : OpenClaim := { program := "ytijilloaggeepaa", sum := "9d59501eb4850d8e3ffd4f3bdaba651e4cd022357726555b26ddb09b73662473", func := "delayslot/delayslotlaw18.EmitConst", spec := "emitConst", apart := false }
def EmitConstSaid : Prop := emitConstRow.holds Try.pinned (OpenSpec.ofChange emitConstSpec)

/-- ITS FALSE NEIGHBOUR: 'it returns false'. Refute it at one input. -/
def emitConstWrong : ChangeSpec := { name := "emitConst", fn := fun _ => fun
  | [d1, d2] => { results := [.lit (.bool false)], args := [d1, d2] }
  | _ => none }
def EmitConstWrongFalsely : Prop := emitConstRow.holds Try.pinned (OpenSpec.ofChange emitConstWrong)

/- THE SECOND FORM. 'bulk': how many values and letters a reading holds, each counted each time it is reached (what is shared counts as often as it is met; a slice's spare places count too). A statement '..UptoSaid' is the law's where the arguments, and the package variables that the reading takes, are together of bulk at most 1048576: NARROWER than '..Said'. Prove '..Said' where nothing that the law and all that it calls make is longer than what came in: it says more and counts as full. Else prove '..UptoSaid'. A law counts once. -/
mutual
def uptoBulk {H : Type} : DataW H → Nat
  | .lit (.string bytes) => bytes.length + 1
  | .lit _ => 1
  | .nil => 1
  | .ptr d => uptoBulk d + 1
  | .slice elems spare => uptoBulkAll elems + uptoBulkAll spare + 1
  | .agg parts => uptoBulkAll parts + 1
  | .iface _ d => uptoBulk d + 1
  | .map entries => uptoBulkEntries entries + 1
  | .held _ => 1
def uptoBulkAll {H : Type} : List (DataW H) → Nat
  | [] => 0
  | d :: r => uptoBulk d + uptoBulkAll r
def uptoBulkEntries {H : Type} : List (Lit × DataW H) → Nat
  | [] => 0
  | x :: r => uptoBulkEntry x + uptoBulkEntries r
def uptoBulkEntry {H : Type} : Lit × DataW H → Nat
  | (.string bytes, d) => bytes.length + uptoBulk d + 1
  | (_, d) => uptoBulk d + 1
 end
def uptoSmall : (H : Type) → List (DataW H) → Bool := fun _ ds => decide (uptoBulkAll ds ≤ 1048576)
def OpenSpec.upto (s : _root_.Go.ChangeSpec) : _root_.Go.OpenSpec := { _root_.Go.OpenSpec.ofChange s with cond := some uptoSmall }

/-- 'delayslotlaw18.EmitOwn', WHERE WHAT IT READS IS OF BULK AT MOST 1048576: true; the input reads as it did. -/
def emitOwnUptoRow : OpenClaim := { program := "ytijilloaggeepaa", sum := "9d59501eb4850d8e3ffd4f3bdaba651e4cd022357726555b26ddb09b73662473", func := "delayslot/delayslotlaw18.EmitOwn", spec := "emitOwn", apart := false, narrowed := true }
def EmitOwnUptoSaid : Prop := emitOwnUptoRow.holds Try.pinned (OpenSpec.upto emitOwnSpec)

/-- 'delayslotlaw18.EmitRegs', WHERE WHAT IT READS IS OF BULK AT MOST 1048576: true; the input reads as it did. -/
def emitRegsUptoRow : OpenClaim := { program := "ytijilloaggeepaa", sum := "9d59501eb4850d8e3ffd4f3bdaba651e4cd022357726555b26ddb09b73662473", func := "delayslot/delayslotlaw18.EmitRegs", spec := "emitRegs", apart := false, narrowed := true }
def EmitRegsUptoSaid : Prop := emitRegsUptoRow.holds Try.pinned (OpenSpec.upto emitRegsSpec)

/-- 'delayslotlaw18.EmitShort', WHERE WHAT IT READS IS OF BULK AT MOST 1048576: true; the input reads as it did. -/
def emitShortUptoRow : OpenClaim := { program := "ytijilloaggeepaa", sum := "9d59501eb4850d8e3ffd4f3bdaba651e4cd022357726555b26ddb09b73662473", func := "delayslot/delayslotlaw18.EmitShort", spec := "emitShort", apart := false, narrowed := true }
def EmitShortUptoSaid : Prop := emitShortUptoRow.holds Try.pinned (OpenSpec.upto emitShortSpec)

/-- 'delayslotlaw18.EmitPlays', WHERE WHAT IT READS IS OF BULK AT MOST 1048576: true; the input reads as it did. -/
def emitPlaysUptoRow : OpenClaim := { program := "ytijilloaggeepaa", sum := "9d59501eb4850d8e3ffd4f3bdaba651e4cd022357726555b26ddb09b73662473", func := "delayslot/delayslotlaw18.EmitPlays", spec := "emitPlays", apart := false, narrowed := true }
def EmitPlaysUptoSaid : Prop := emitPlaysUptoRow.holds Try.pinned (OpenSpec.upto emitPlaysSpec)

/-- 'delayslotlaw18.EmitPatches', WHERE WHAT IT READS IS OF BULK AT MOST 1048576: true; the input reads as it did. -/
def emitPatchesUptoRow : OpenClaim := { program := "ytijilloaggeepaa", sum := "9d59501eb4850d8e3ffd4f3bdaba651e4cd022357726555b26ddb09b73662473", func := "delayslot/delayslotlaw18.EmitPatches", spec := "emitPatches", apart := false, narrowed := true }
def EmitPatchesUptoSaid : Prop := emitPatchesUptoRow.holds Try.pinned (OpenSpec.upto emitPatchesSpec)

/-- 'delayslotlaw18.EmitLands', WHERE WHAT IT READS IS OF BULK AT MOST 1048576: true; the input reads as it did. -/
def emitLandsUptoRow : OpenClaim := { program := "ytijilloaggeepaa", sum := "9d59501eb4850d8e3ffd4f3bdaba651e4cd022357726555b26ddb09b73662473", func := "delayslot/delayslotlaw18.EmitLands", spec := "emitLands", apart := false, narrowed := true }
def EmitLandsUptoSaid : Prop := emitLandsUptoRow.holds Try.pinned (OpenSpec.upto emitLandsSpec)

/-- 'delayslotlaw18.EmitConst', WHERE WHAT IT READS IS OF BULK AT MOST 1048576: true; the input reads as it did. -/
def emitConstUptoRow : OpenClaim := { program := "ytijilloaggeepaa", sum := "9d59501eb4850d8e3ffd4f3bdaba651e4cd022357726555b26ddb09b73662473", func := "delayslot/delayslotlaw18.EmitConst", spec := "emitConst", apart := false, narrowed := true }
def EmitConstUptoSaid : Prop := emitConstUptoRow.holds Try.pinned (OpenSpec.upto emitConstSpec)

end Rows
end Go.Proofs.Ytijilloaggeepaa
