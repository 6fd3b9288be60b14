/-
  No cell of these rows narrows 'for every input' (looked for: loops, veiled, ifaces, maps, wideKeys, modest, calm, conditions, laid).
  DERIVED. THE GIVEN ROWS OF THIS SEAT. 17 by the template 'for every input the law returns true; each argument reads behind the call as it read before'; 0 by the template 'total and deterministic' (their statements: YtkfemiloehkmhaaTotals.lean).
  GIVEN WITH THE SEED: the statements are not yours to turn. If you find one false, say at which input.
  Laid BY PROGRAM, IN A SANDBOX (cutbox-rows.mjs): the forced cells as the released guide's own fill.sh prints them over the translation 6a90c2512a134da8… (all of the seat's roots in one cut). By AI agents, Wed Nov 11 2026. No macro, syntax, notation, axiom, sorry.
-/
import Derived.Test.YtkfemiloehkmhaaChecked
import GoSem.Claim
import GoSem.ClaimJoined
import GoSem.ClaimMapViews
import Derived.JoinedTies
import Derived.KernelRfl
namespace Go.Proofs.Ytkfemiloehkmhaa
/- THE CELL 'sum', in the pinned program and in every row, IS THE sha256 OF THE DUMP (.gsa) THAT YtkfemiloehkmhaaProg.lean LOADS. Nothing in Lean hashes anything: it is a label: what it is worth is what the hold of that sum in a sandbox is worth. -/
noncomputable def Try.pinned : Pinned := { name := "ytkfemiloehkmhaa", sum := "6a90c2512a134da8a5ed9de94b7022404a7345d9b6032cdb179a05458906f8aa", checked := Try.checked }
namespace Rows
def none {H : Type} : Left H := { results := [], args := [] }

/-- 'delayslotlaw09.BlockFits': WHATEVER THE INPUT: true; the input reads as it did. -/
def blockFitsSpec : ChangeSpec := { name := "blockFits", fn := fun _ => fun
  | [d1, d2, d3] => { results := [.lit (.bool true)], args := [d1, d2, d3] }
  | _ => none }
def blockFitsRow : OpenClaim := { program := "ytkfemiloehkmhaa", sum := "6a90c2512a134da8a5ed9de94b7022404a7345d9b6032cdb179a05458906f8aa", func := "delayslot/delayslotlaw09.BlockFits", spec := "blockFits", unfollowed := true, recurses := true, apart := false }
def BlockFitsSaid : Prop := blockFitsRow.holds Try.pinned (OpenSpec.ofChange blockFitsSpec)

/-- ITS FALSE NEIGHBOUR: 'it returns false'. Refute it at one input. -/
def blockFitsWrong : ChangeSpec := { name := "blockFits", fn := fun _ => fun
  | [d1, d2, d3] => { results := [.lit (.bool false)], args := [d1, d2, d3] }
  | _ => none }
def BlockFitsWrongFalsely : Prop := blockFitsRow.holds Try.pinned (OpenSpec.ofChange blockFitsWrong)

/-- 'delayslotlaw09.BlockHeads': WHATEVER THE INPUT: true; the input reads as it did. -/
def blockHeadsSpec : ChangeSpec := { name := "blockHeads", fn := fun _ => fun
  | [d] => { results := [.lit (.bool true)], args := [d] }
  | _ => none }
def blockHeadsRow : OpenClaim := { program := "ytkfemiloehkmhaa", sum := "6a90c2512a134da8a5ed9de94b7022404a7345d9b6032cdb179a05458906f8aa", func := "delayslot/delayslotlaw09.BlockHeads", spec := "blockHeads", unfollowed := true, recurses := true, apart := false }
def BlockHeadsSaid : Prop := blockHeadsRow.holds Try.pinned (OpenSpec.ofChange blockHeadsSpec)

/-- ITS FALSE NEIGHBOUR: 'it returns false'. Refute it at one input. -/
def blockHeadsWrong : ChangeSpec := { name := "blockHeads", fn := fun _ => fun
  | [d] => { results := [.lit (.bool false)], args := [d] }
  | _ => none }
def BlockHeadsWrongFalsely : Prop := blockHeadsRow.holds Try.pinned (OpenSpec.ofChange blockHeadsWrong)

/-- 'delayslotlaw09.BlockWhole': WHATEVER THE INPUT: true; the input reads as it did. -/
def blockWholeSpec : ChangeSpec := { name := "blockWhole", fn := fun _ => fun
  | [d] => { results := [.lit (.bool true)], args := [d] }
  | _ => none }
def blockWholeRow : OpenClaim := { program := "ytkfemiloehkmhaa", sum := "6a90c2512a134da8a5ed9de94b7022404a7345d9b6032cdb179a05458906f8aa", func := "delayslot/delayslotlaw09.BlockWhole", spec := "blockWhole", unfollowed := true, recurses := true, apart := false }
def BlockWholeSaid : Prop := blockWholeRow.holds Try.pinned (OpenSpec.ofChange blockWholeSpec)

/-- ITS FALSE NEIGHBOUR: 'it returns false'. Refute it at one input. -/
def blockWholeWrong : ChangeSpec := { name := "blockWhole", fn := fun _ => fun
  | [d] => { results := [.lit (.bool false)], args := [d] }
  | _ => none }
def BlockWholeWrongFalsely : Prop := blockWholeRow.holds Try.pinned (OpenSpec.ofChange blockWholeWrong)

/-- 'delayslotlaw09.BlockNops': WHATEVER THE INPUT: true; the input reads as it did. -/
def blockNopsSpec : ChangeSpec := { name := "blockNops", fn := fun _ => fun
  | [d1, d2] => { results := [.lit (.bool true)], args := [d1, d2] }
  | _ => none }
def blockNopsRow : OpenClaim := { program := "ytkfemiloehkmhaa", sum := "6a90c2512a134da8a5ed9de94b7022404a7345d9b6032cdb179a05458906f8aa", func := "delayslot/delayslotlaw09.BlockNops", spec := "blockNops", unfollowed := true, recurses := true, apart := false }
def BlockNopsSaid : Prop := blockNopsRow.holds Try.pinned (OpenSpec.ofChange blockNopsSpec)

/-- ITS FALSE NEIGHBOUR: 'it returns false'. Refute it at one input. -/
def blockNopsWrong : ChangeSpec := { name := "blockNops", fn := fun _ => fun
  | [d1, d2] => { results := [.lit (.bool false)], args := [d1, d2] }
  | _ => none }
def BlockNopsWrongFalsely : Prop := blockNopsRow.holds Try.pinned (OpenSpec.ofChange blockNopsWrong)

/-- 'delayslotlaw09.BlockStrict': WHATEVER THE INPUT: true; the input reads as it did. -/
def blockStrictSpec : ChangeSpec := { name := "blockStrict", fn := fun _ => fun
  | [d1, d2] => { results := [.lit (.bool true)], args := [d1, d2] }
  | _ => none }
def blockStrictRow : OpenClaim := { program := "ytkfemiloehkmhaa", sum := "6a90c2512a134da8a5ed9de94b7022404a7345d9b6032cdb179a05458906f8aa", func := "delayslot/delayslotlaw09.BlockStrict", spec := "blockStrict", unfollowed := true, recurses := true, apart := false }
def BlockStrictSaid : Prop := blockStrictRow.holds Try.pinned (OpenSpec.ofChange blockStrictSpec)

/-- ITS FALSE NEIGHBOUR: 'it returns false'. Refute it at one input. -/
def blockStrictWrong : ChangeSpec := { name := "blockStrict", fn := fun _ => fun
  | [d1, d2] => { results := [.lit (.bool false)], args := [d1, d2] }
  | _ => none }
def BlockStrictWrongFalsely : Prop := blockStrictRow.holds Try.pinned (OpenSpec.ofChange blockStrictWrong)

/-- 'delayslotlaw09.BlockCut': WHATEVER THE INPUT: true; the input reads as it did. -/
def blockCutSpec : ChangeSpec := { name := "blockCut", fn := fun _ => fun
  | [d1, d2] => { results := [.lit (.bool true)], args := [d1, d2] }
  | _ => none }
def blockCutRow : OpenClaim := { program := "ytkfemiloehkmhaa", sum := "6a90c2512a134da8a5ed9de94b7022404a7345d9b6032cdb179a05458906f8aa", func := "delayslot/delayslotlaw09.BlockCut", spec := "blockCut", unfollowed := true, recurses := true, apart := false }
def BlockCutSaid : Prop := blockCutRow.holds Try.pinned (OpenSpec.ofChange blockCutSpec)

/-- ITS FALSE NEIGHBOUR: 'it returns false'. Refute it at one input. -/
def blockCutWrong : ChangeSpec := { name := "blockCut", fn := fun _ => fun
  | [d1, d2] => { results := [.lit (.bool false)], args := [d1, d2] }
  | _ => none }
def BlockCutWrongFalsely : Prop := blockCutRow.holds Try.pinned (OpenSpec.ofChange blockCutWrong)

/-- 'delayslotlaw09.BlockTargets': WHATEVER THE INPUT: true; the input reads as it did. -/
def blockTargetsSpec : ChangeSpec := { name := "blockTargets", fn := fun _ => fun
  | [d1, d2] => { results := [.lit (.bool true)], args := [d1, d2] }
  | _ => none }
def blockTargetsRow : OpenClaim := { program := "ytkfemiloehkmhaa", sum := "6a90c2512a134da8a5ed9de94b7022404a7345d9b6032cdb179a05458906f8aa", func := "delayslot/delayslotlaw09.BlockTargets", spec := "blockTargets", unfollowed := true, recurses := true, apart := false }
def BlockTargetsSaid : Prop := blockTargetsRow.holds Try.pinned (OpenSpec.ofChange blockTargetsSpec)

/-- ITS FALSE NEIGHBOUR: 'it returns false'. Refute it at one input. -/
def blockTargetsWrong : ChangeSpec := { name := "blockTargets", fn := fun _ => fun
  | [d1, d2] => { results := [.lit (.bool false)], args := [d1, d2] }
  | _ => none }
def BlockTargetsWrongFalsely : Prop := blockTargetsRow.holds Try.pinned (OpenSpec.ofChange blockTargetsWrong)

/-- 'delayslotlaw11.SchedOrders': WHATEVER THE INPUT: true; the input reads as it did. -/
def schedOrdersSpec : ChangeSpec := { name := "schedOrders", fn := fun _ => fun
  | [d] => { results := [.lit (.bool true)], args := [d] }
  | _ => none }
def schedOrdersRow : OpenClaim := { program := "ytkfemiloehkmhaa", sum := "6a90c2512a134da8a5ed9de94b7022404a7345d9b6032cdb179a05458906f8aa", func := "delayslot/delayslotlaw11.SchedOrders", spec := "schedOrders", unfollowed := true, recurses := true, apart := false }
def SchedOrdersSaid : Prop := schedOrdersRow.holds Try.pinned (OpenSpec.ofChange schedOrdersSpec)

/-- ITS FALSE NEIGHBOUR: 'it returns false'. Refute it at one input. -/
def schedOrdersWrong : ChangeSpec := { name := "schedOrders", fn := fun _ => fun
  | [d] => { results := [.lit (.bool false)], args := [d] }
  | _ => none }
def SchedOrdersWrongFalsely : Prop := schedOrdersRow.holds Try.pinned (OpenSpec.ofChange schedOrdersWrong)

/-- 'delayslotlaw11.SchedLays': WHATEVER THE INPUT: true; the input reads as it did. -/
def schedLaysSpec : ChangeSpec := { name := "schedLays", fn := fun _ => fun
  | [d1, d2] => { results := [.lit (.bool true)], args := [d1, d2] }
  | _ => none }
def schedLaysRow : OpenClaim := { program := "ytkfemiloehkmhaa", sum := "6a90c2512a134da8a5ed9de94b7022404a7345d9b6032cdb179a05458906f8aa", func := "delayslot/delayslotlaw11.SchedLays", spec := "schedLays", unfollowed := true, recurses := true, apart := false }
def SchedLaysSaid : Prop := schedLaysRow.holds Try.pinned (OpenSpec.ofChange schedLaysSpec)

/-- ITS FALSE NEIGHBOUR: 'it returns false'. Refute it at one input. -/
def schedLaysWrong : ChangeSpec := { name := "schedLays", fn := fun _ => fun
  | [d1, d2] => { results := [.lit (.bool false)], args := [d1, d2] }
  | _ => none }
def SchedLaysWrongFalsely : Prop := schedLaysRow.holds Try.pinned (OpenSpec.ofChange schedLaysWrong)

/-- 'delayslotlaw11.SchedKeeps': WHATEVER THE INPUT: true; the input reads as it did. -/
def schedKeepsSpec : ChangeSpec := { name := "schedKeeps", fn := fun _ => fun
  | [d] => { results := [.lit (.bool true)], args := [d] }
  | _ => none }
def schedKeepsRow : OpenClaim := { program := "ytkfemiloehkmhaa", sum := "6a90c2512a134da8a5ed9de94b7022404a7345d9b6032cdb179a05458906f8aa", func := "delayslot/delayslotlaw11.SchedKeeps", spec := "schedKeeps", unfollowed := true, recurses := true, apart := false }
def SchedKeepsSaid : Prop := schedKeepsRow.holds Try.pinned (OpenSpec.ofChange schedKeepsSpec)

/-- ITS FALSE NEIGHBOUR: 'it returns false'. Refute it at one input. -/
def schedKeepsWrong : ChangeSpec := { name := "schedKeeps", fn := fun _ => fun
  | [d] => { results := [.lit (.bool false)], args := [d] }
  | _ => none }
def SchedKeepsWrongFalsely : Prop := schedKeepsRow.holds Try.pinned (OpenSpec.ofChange schedKeepsWrong)

/-- 'delayslotlaw11.SchedSlots': WHATEVER THE INPUT: true; the input reads as it did. -/
def schedSlotsSpec : ChangeSpec := { name := "schedSlots", fn := fun _ => fun
  | [d] => { results := [.lit (.bool true)], args := [d] }
  | _ => none }
def schedSlotsRow : OpenClaim := { program := "ytkfemiloehkmhaa", sum := "6a90c2512a134da8a5ed9de94b7022404a7345d9b6032cdb179a05458906f8aa", func := "delayslot/delayslotlaw11.SchedSlots", spec := "schedSlots", unfollowed := true, recurses := true, apart := false }
def SchedSlotsSaid : Prop := schedSlotsRow.holds Try.pinned (OpenSpec.ofChange schedSlotsSpec)

/-- ITS FALSE NEIGHBOUR: 'it returns false'. Refute it at one input. -/
def schedSlotsWrong : ChangeSpec := { name := "schedSlots", fn := fun _ => fun
  | [d] => { results := [.lit (.bool false)], args := [d] }
  | _ => none }
def SchedSlotsWrongFalsely : Prop := schedSlotsRow.holds Try.pinned (OpenSpec.ofChange schedSlotsWrong)

/-- 'delayslotlaw11.SchedFree': WHATEVER THE INPUT: true; the input reads as it did. -/
def schedFreeSpec : ChangeSpec := { name := "schedFree", fn := fun _ => fun
  | [d] => { results := [.lit (.bool true)], args := [d] }
  | _ => none }
def schedFreeRow : OpenClaim := { program := "ytkfemiloehkmhaa", sum := "6a90c2512a134da8a5ed9de94b7022404a7345d9b6032cdb179a05458906f8aa", func := "delayslot/delayslotlaw11.SchedFree", spec := "schedFree", unfollowed := true, recurses := true, apart := false }
def SchedFreeSaid : Prop := schedFreeRow.holds Try.pinned (OpenSpec.ofChange schedFreeSpec)

/-- ITS FALSE NEIGHBOUR: 'it returns false'. Refute it at one input. -/
def schedFreeWrong : ChangeSpec := { name := "schedFree", fn := fun _ => fun
  | [d] => { results := [.lit (.bool false)], args := [d] }
  | _ => none }
def SchedFreeWrongFalsely : Prop := schedFreeRow.holds Try.pinned (OpenSpec.ofChange schedFreeWrong)

/-- 'delayslotlaw11.SchedShort': WHATEVER THE INPUT: true; the input reads as it did. -/
def schedShortSpec : ChangeSpec := { name := "schedShort", fn := fun _ => fun
  | [d] => { results := [.lit (.bool true)], args := [d] }
  | _ => none }
def schedShortRow : OpenClaim := { program := "ytkfemiloehkmhaa", sum := "6a90c2512a134da8a5ed9de94b7022404a7345d9b6032cdb179a05458906f8aa", func := "delayslot/delayslotlaw11.SchedShort", spec := "schedShort", unfollowed := true, recurses := true, apart := false }
def SchedShortSaid : Prop := schedShortRow.holds Try.pinned (OpenSpec.ofChange schedShortSpec)

/-- ITS FALSE NEIGHBOUR: 'it returns false'. Refute it at one input. -/
def schedShortWrong : ChangeSpec := { name := "schedShort", fn := fun _ => fun
  | [d] => { results := [.lit (.bool false)], args := [d] }
  | _ => none }
def SchedShortWrongFalsely : Prop := schedShortRow.holds Try.pinned (OpenSpec.ofChange schedShortWrong)

/-- 'delayslotlaw11.SchedAlone': WHATEVER THE INPUT: true; the input reads as it did. -/
def schedAloneSpec : ChangeSpec := { name := "schedAlone", fn := fun _ => fun
  | [d] => { results := [.lit (.bool true)], args := [d] }
  | _ => none }
def schedAloneRow : OpenClaim := { program := "ytkfemiloehkmhaa", sum := "6a90c2512a134da8a5ed9de94b7022404a7345d9b6032cdb179a05458906f8aa", func := "delayslot/delayslotlaw11.SchedAlone", spec := "schedAlone", unfollowed := true, recurses := true, apart := false }
def SchedAloneSaid : Prop := schedAloneRow.holds Try.pinned (OpenSpec.ofChange schedAloneSpec)

/-- ITS FALSE NEIGHBOUR: 'it returns false'. Refute it at one input. -/
def schedAloneWrong : ChangeSpec := { name := "schedAlone", fn := fun _ => fun
  | [d] => { results := [.lit (.bool false)], args := [d] }
  | _ => none }
def SchedAloneWrongFalsely : Prop := schedAloneRow.holds Try.pinned (OpenSpec.ofChange schedAloneWrong)

/-- 'delayslotlaw13.ReorgLays': WHATEVER THE INPUT: true; the input reads as it did. -/
def reorgLaysSpec : ChangeSpec := { name := "reorgLays", fn := fun _ => fun
  | [d] => { results := [.lit (.bool true)], args := [d] }
  | _ => none }
def reorgLaysRow : OpenClaim := { program := "ytkfemiloehkmhaa", sum := "6a90c2512a134da8a5ed9de94b7022404a7345d9b6032cdb179a05458906f8aa", func := "delayslot/delayslotlaw13.ReorgLays", spec := "reorgLays", unfollowed := true, recurses := true, apart := false }
def ReorgLaysSaid : Prop := reorgLaysRow.holds Try.pinned (OpenSpec.ofChange reorgLaysSpec)

/-- ITS FALSE NEIGHBOUR: 'it returns false'. Refute it at one input. -/
def reorgLaysWrong : ChangeSpec := { name := "reorgLays", fn := fun _ => fun
  | [d] => { results := [.lit (.bool false)], args := [d] }
  | _ => none }
def ReorgLaysWrongFalsely : Prop := reorgLaysRow.holds Try.pinned (OpenSpec.ofChange reorgLaysWrong)

/-- 'delayslotlaw13.ReorgStraight': WHATEVER THE INPUT: true; the input reads as it did. -/
def reorgStraightSpec : ChangeSpec := { name := "reorgStraight", fn := fun _ => fun
  | [d] => { results := [.lit (.bool true)], args := [d] }
  | _ => none }
def reorgStraightRow : OpenClaim := { program := "ytkfemiloehkmhaa", sum := "6a90c2512a134da8a5ed9de94b7022404a7345d9b6032cdb179a05458906f8aa", func := "delayslot/delayslotlaw13.ReorgStraight", spec := "reorgStraight", unfollowed := true, recurses := true, apart := false }
def ReorgStraightSaid : Prop := reorgStraightRow.holds Try.pinned (OpenSpec.ofChange reorgStraightSpec)

/-- ITS FALSE NEIGHBOUR: 'it returns false'. Refute it at one input. -/
def reorgStraightWrong : ChangeSpec := { name := "reorgStraight", fn := fun _ => fun
  | [d] => { results := [.lit (.bool false)], args := [d] }
  | _ => none }
def ReorgStraightWrongFalsely : Prop := reorgStraightRow.holds Try.pinned (OpenSpec.ofChange reorgStraightWrong)

/-- 'delayslotlaw13.ReorgNops': WHATEVER THE INPUT: true; the input reads as it did. -/
def reorgNopsSpec : ChangeSpec := { name := "reorgNops", fn := fun _ => fun
  | [d] => { results := [.lit (.bool true)], args := [d] }
  | _ => none }
def reorgNopsRow : OpenClaim := { program := "ytkfemiloehkmhaa", sum := "6a90c2512a134da8a5ed9de94b7022404a7345d9b6032cdb179a05458906f8aa", func := "delayslot/delayslotlaw13.ReorgNops", spec := "reorgNops", unfollowed := true, recurses := true, apart := false }
def ReorgNopsSaid : Prop := reorgNopsRow.holds Try.pinned (OpenSpec.ofChange reorgNopsSpec)

/-- ITS FALSE NEIGHBOUR: 'it returns false'. Refute it at one input. -/
def reorgNopsWrong : ChangeSpec := { name := "reorgNops", fn := fun _ => fun
  | [d] => { results := [.lit (.bool false)], args := [d] }
  | _ => none }
def ReorgNopsWrongFalsely : Prop := reorgNopsRow.holds Try.pinned (OpenSpec.ofChange reorgNopsWrong)

/- THE SECOND FORM. 'bulk': how many values and letters a reading holds, each counted each time it is reached (what is shared counts as often as it is met; a slice's spare places count too). A statement '..UptoSaid' is the law's where the arguments, and the package variables that the reading takes, are together of bulk at most 1048576: NARROWER than '..Said'. Prove '..Said' where nothing that the law and all that it calls make is longer than what came in: it says more and counts as full. Else prove '..UptoSaid'. A law counts once. -/
mutual
def uptoBulk {H : Type} : DataW H → Nat
  | .lit (.string bytes) => bytes.length + 1
  | .lit _ => 1
  | .nil => 1
  | .ptr d => uptoBulk d + 1
  | .slice elems spare => uptoBulkAll elems + uptoBulkAll spare + 1
  | .agg parts => uptoBulkAll parts + 1
  | .iface _ d => uptoBulk d + 1
  | .map entries => uptoBulkEntries entries + 1
  | .held _ => 1
def uptoBulkAll {H : Type} : List (DataW H) → Nat
  | [] => 0
  | d :: r => uptoBulk d + uptoBulkAll r
def uptoBulkEntries {H : Type} : List (Lit × DataW H) → Nat
  | [] => 0
  | x :: r => uptoBulkEntry x + uptoBulkEntries r
def uptoBulkEntry {H : Type} : Lit × DataW H → Nat
  | (.string bytes, d) => bytes.length + uptoBulk d + 1
  | (_, d) => uptoBulk d + 1
 end
def uptoSmall : (H : Type) → List (DataW H) → Bool := fun _ ds => decide (uptoBulkAll ds ≤ 1048576)
def OpenSpec.upto (s : _root_.Go.ChangeSpec) : _root_.Go.OpenSpec := { _root_.Go.OpenSpec.ofChange s with cond := some uptoSmall }

/-- 'delayslotlaw09.BlockFits', WHERE WHAT IT READS IS OF BULK AT MOST 1048576: true; the input reads as it did. -/
def blockFitsUptoRow : OpenClaim := { program := "ytkfemiloehkmhaa", sum := "6a90c2512a134da8a5ed9de94b7022404a7345d9b6032cdb179a05458906f8aa", func := "delayslot/delayslotlaw09.BlockFits", spec := "blockFits", unfollowed := true, recurses := true, apart := false, narrowed := true }
def BlockFitsUptoSaid : Prop := blockFitsUptoRow.holds Try.pinned (OpenSpec.upto blockFitsSpec)

/-- 'delayslotlaw09.BlockHeads', WHERE WHAT IT READS IS OF BULK AT MOST 1048576: true; the input reads as it did. -/
def blockHeadsUptoRow : OpenClaim := { program := "ytkfemiloehkmhaa", sum := "6a90c2512a134da8a5ed9de94b7022404a7345d9b6032cdb179a05458906f8aa", func := "delayslot/delayslotlaw09.BlockHeads", spec := "blockHeads", unfollowed := true, recurses := true, apart := false, narrowed := true }
def BlockHeadsUptoSaid : Prop := blockHeadsUptoRow.holds Try.pinned (OpenSpec.upto blockHeadsSpec)

/-- 'delayslotlaw09.BlockWhole', WHERE WHAT IT READS IS OF BULK AT MOST 1048576: true; the input reads as it did. -/
def blockWholeUptoRow : OpenClaim := { program := "ytkfemiloehkmhaa", sum := "6a90c2512a134da8a5ed9de94b7022404a7345d9b6032cdb179a05458906f8aa", func := "delayslot/delayslotlaw09.BlockWhole", spec := "blockWhole", unfollowed := true, recurses := true, apart := false, narrowed := true }
def BlockWholeUptoSaid : Prop := blockWholeUptoRow.holds Try.pinned (OpenSpec.upto blockWholeSpec)

/-- 'delayslotlaw09.BlockNops', WHERE WHAT IT READS IS OF BULK AT MOST 1048576: true; the input reads as it did. -/
def blockNopsUptoRow : OpenClaim := { program := "ytkfemiloehkmhaa", sum := "6a90c2512a134da8a5ed9de94b7022404a7345d9b6032cdb179a05458906f8aa", func := "delayslot/delayslotlaw09.BlockNops", spec := "blockNops", unfollowed := true, recurses := true, apart := false, narrowed := true }
def BlockNopsUptoSaid : Prop := blockNopsUptoRow.holds Try.pinned (OpenSpec.upto blockNopsSpec)

/-- 'delayslotlaw09.BlockStrict', WHERE WHAT IT READS IS OF BULK AT MOST 1048576: true; the input reads as it did. -/
def blockStrictUptoRow : OpenClaim := { program := "ytkfemiloehkmhaa", sum := "6a90c2512a134da8a5ed9de94b7022404a7345d9b6032cdb179a05458906f8aa", func := "delayslot/delayslotlaw09.BlockStrict", spec := "blockStrict", unfollowed := true, recurses := true, apart := false, narrowed := true }
def BlockStrictUptoSaid : Prop := blockStrictUptoRow.holds Try.pinned (OpenSpec.upto blockStrictSpec)

/-- 'delayslotlaw09.BlockCut', WHERE WHAT IT READS IS OF BULK AT MOST 1048576: true; the input reads as it did. -/
def blockCutUptoRow : OpenClaim := { program := "ytkfemiloehkmhaa", sum := "6a90c2512a134da8a5ed9de94b7022404a7345d9b6032cdb179a05458906f8aa", func := "delayslot/delayslotlaw09.BlockCut", spec := "blockCut", unfollowed := true, recurses := true, apart := false, narrowed := true }
def BlockCutUptoSaid : Prop := blockCutUptoRow.holds Try.pinned (OpenSpec.upto blockCutSpec)

/-- 'delayslotlaw09.BlockTargets', WHERE WHAT IT READS IS OF BULK AT MOST 1048576: true; the input reads as it did. -/
def blockTargetsUptoRow : OpenClaim := { program := "ytkfemiloehkmhaa", sum := "6a90c2512a134da8a5ed9de94b7022404a7345d9b6032cdb179a05458906f8aa", func := "delayslot/delayslotlaw09.BlockTargets", spec := "blockTargets", unfollowed := true, recurses := true, apart := false, narrowed := true }
def BlockTargetsUptoSaid : Prop := blockTargetsUptoRow.holds Try.pinned (OpenSpec.upto blockTargetsSpec)

/-- 'delayslotlaw11.SchedOrders', WHERE WHAT IT READS IS OF BULK AT MOST 1048576: true; the input reads as it did. -/
def schedOrdersUptoRow : OpenClaim := { program := "ytkfemiloehkmhaa", sum := "6a90c2512a134da8a5ed9de94b7022404a7345d9b6032cdb179a05458906f8aa", func := "delayslot/delayslotlaw11.SchedOrders", spec := "schedOrders", unfollowed := true, recurses := true, apart := false, narrowed := true }
def SchedOrdersUptoSaid : Prop := schedOrdersUptoRow.holds Try.pinned (OpenSpec.upto schedOrdersSpec)

/-- 'delayslotlaw11.SchedLays', WHERE WHAT IT READS IS OF BULK AT MOST 1048576: true; the input reads as it did. -/
def schedLaysUptoRow : OpenClaim := { program := "ytkfemiloehkmhaa", sum := "6a90c2512a134da8a5ed9de94b7022404a7345d9b6032cdb179a05458906f8aa", func := "delayslot/delayslotlaw11.SchedLays", spec := "schedLays", unfollowed := true, recurses := true, apart := false, narrowed := true }
def SchedLaysUptoSaid : Prop := schedLaysUptoRow.holds Try.pinned (OpenSpec.upto schedLaysSpec)

/-- 'delayslotlaw11.SchedKeeps', WHERE WHAT IT READS IS OF BULK AT MOST 1048576: true; the input reads as it did. -/
def schedKeepsUptoRow : OpenClaim := { program := "ytkfemiloehkmhaa", sum := "6a90c2512a134da8a5ed9de94b7022404a7345d9b6032cdb179a05458906f8aa", func := "delayslot/delayslotlaw11.SchedKeeps", spec := "schedKeeps", unfollowed := true, recurses := true, apart := false, narrowed := true }
def SchedKeepsUptoSaid : Prop := schedKeepsUptoRow.holds Try.pinned (OpenSpec.upto schedKeepsSpec)

/-- 'delayslotlaw11.SchedSlots', WHERE WHAT IT READS IS OF BULK AT MOST 1048576: true; the input reads as it did. -/
def schedSlotsUptoRow : OpenClaim := { program := "ytkfemiloehkmhaa", sum := "6a90c2512a134da8a5ed9de94b7022404a7345d9b6032cdb179a05458906f8aa", func := "delayslot/delayslotlaw11.SchedSlots", spec := "schedSlots", unfollowed := true, recurses := true, apart := false, narrowed := true }
def SchedSlotsUptoSaid : Prop := schedSlotsUptoRow.holds Try.pinned (OpenSpec.upto schedSlotsSpec)

/-- 'delayslotlaw11.SchedFree', WHERE WHAT IT READS IS OF BULK AT MOST 1048576: true; the input reads as it did. -/
def schedFreeUptoRow : OpenClaim := { program := "ytkfemiloehkmhaa", sum := "6a90c2512a134da8a5ed9de94b7022404a7345d9b6032cdb179a05458906f8aa", func := "delayslot/delayslotlaw11.SchedFree", spec := "schedFree", unfollowed := true, recurses := true, apart := false, narrowed := true }
def SchedFreeUptoSaid : Prop := schedFreeUptoRow.holds Try.pinned (OpenSpec.upto schedFreeSpec)

/-- 'delayslotlaw11.SchedShort', WHERE WHAT IT READS IS OF BULK AT MOST 1048576: true; the input reads as it did. -/
def schedShortUptoRow : OpenClaim := { program := "ytkfemiloehkmhaa", sum := "6a90c2512a134da8a5ed9de94b7022404a7345d9b6032cdb179a05458906f8aa", func := "delayslot/delayslotlaw11.SchedShort", spec := "schedShort", unfollowed := true, recurses := true, apart := false, narrowed := true }
def SchedShortUptoSaid : Prop := schedShortUptoRow.holds Try.pinned (OpenSpec.upto schedShortSpec)

/-- 'delayslotlaw11.SchedAlone', WHERE WHAT IT READS IS OF BULK AT MOST 1048576: true; the input reads as it did. -/
def schedAloneUptoRow : OpenClaim := { program := "ytkfemiloehkmhaa", sum := "6a90c2512a134da8a5ed9de94b7022404a7345d9b6032cdb179a05458906f8aa", func := "delayslot/delayslotlaw11.SchedAlone", spec := "schedAlone", unfollowed := true, recurses := true, apart := false, narrowed := true }
def SchedAloneUptoSaid : Prop := schedAloneUptoRow.holds Try.pinned (OpenSpec.upto schedAloneSpec)

/-- 'delayslotlaw13.ReorgLays', WHERE WHAT IT READS IS OF BULK AT MOST 1048576: true; the input reads as it did. -/
def reorgLaysUptoRow : OpenClaim := { program := "ytkfemiloehkmhaa", sum := "6a90c2512a134da8a5ed9de94b7022404a7345d9b6032cdb179a05458906f8aa", func := "delayslot/delayslotlaw13.ReorgLays", spec := "reorgLays", unfollowed := true, recurses := true, apart := false, narrowed := true }
def ReorgLaysUptoSaid : Prop := reorgLaysUptoRow.holds Try.pinned (OpenSpec.upto reorgLaysSpec)

/-- 'delayslotlaw13.ReorgStraight', WHERE WHAT IT READS IS OF BULK AT MOST 1048576: true; the input reads as it did. -/
def reorgStraightUptoRow : OpenClaim := { program := "ytkfemiloehkmhaa", sum := "6a90c2512a134da8a5ed9de94b7022404a7345d9b6032cdb179a05458906f8aa", func := "delayslot/delayslotlaw13.ReorgStraight", spec := "reorgStraight", unfollowed := true, recurses := true, apart := false, narrowed := true }
def ReorgStraightUptoSaid : Prop := reorgStraightUptoRow.holds Try.pinned (OpenSpec.upto reorgStraightSpec)

/-- 'delayslotlaw13.ReorgNops', WHERE WHAT IT READS IS OF BULK AT MOST 1048576: true; the input reads as it did. -/
def reorgNopsUptoRow : OpenClaim := { program := "ytkfemiloehkmhaa", sum := "6a90c2512a134da8a5ed9de94b7022404a7345d9b6032cdb179a05458906f8aa", func := "delayslot/delayslotlaw13.ReorgNops", spec := "reorgNops", unfollowed := true, recurses := true, apart := false, narrowed := true }
def ReorgNopsUptoSaid : Prop := reorgNopsUptoRow.holds Try.pinned (OpenSpec.upto reorgNopsSpec)

end Rows
end Go.Proofs.Ytkfemiloehkmhaa
