/-
  No cell of these rows narrows 'for every input' (looked for: loops, veiled, ifaces, maps, wideKeys, modest, calm, conditions, laid).
  DERIVED. THE GIVEN ROWS OF THIS SEAT. 18 by the template 'for every input the law returns true; each argument reads behind the call as it read before'; 0 by the template 'total and deterministic' (their statements: YthocajnpofdbmaaTotals.lean).
  GIVEN WITH THE SEED: the statements are not yours to turn. If you find one false, say at which input.
  Laid BY PROGRAM, IN A SANDBOX (cutbox-rows.mjs): the forced cells as the released guide's own fill.sh prints them over the translation 4a650f25454d7313… (all of the seat's roots in one cut). By AI agents, Wed Nov 11 2026. No macro, syntax, notation, axiom, sorry.
-/
import Derived.Test.YthocajnpofdbmaaChecked
import GoSem.Claim
import GoSem.ClaimJoined
import GoSem.ClaimMapViews
import Derived.JoinedTies
import Derived.KernelRfl
namespace Go.Proofs.Ythocajnpofdbmaa
/- THE CELL 'sum', in the pinned program and in every row, IS THE sha256 OF THE DUMP (.gsa) THAT YthocajnpofdbmaaProg.lean LOADS. Nothing in Lean hashes anything: it is a label: what it is worth is what the hold of that sum in a sandbox is worth. -/
noncomputable def Try.pinned : Pinned := { name := "ythocajnpofdbmaa", sum := "4a650f25454d7313d49d9557fdf921d6b9e64669af3eed89e7afbf269baec189", checked := Try.checked }
namespace Rows
def none {H : Type} : Left H := { results := [], args := [] }

/-- 'delayslotlaw03.EffectReads': WHATEVER THE INPUT: true; the input reads as it did. -/
def effectReadsSpec : ChangeSpec := { name := "effectReads", fn := fun _ => fun
  | [d] => { results := [.lit (.bool true)], args := [d] }
  | _ => none }
def effectReadsRow : OpenClaim := { program := "ythocajnpofdbmaa", sum := "4a650f25454d7313d49d9557fdf921d6b9e64669af3eed89e7afbf269baec189", func := "delayslot/delayslotlaw03.EffectReads", spec := "effectReads", unfollowed := true, recurses := true, apart := false }
def EffectReadsSaid : Prop := effectReadsRow.holds Try.pinned (OpenSpec.ofChange effectReadsSpec)

/-- ITS FALSE NEIGHBOUR: 'it returns false'. Refute it at one input. -/
def effectReadsWrong : ChangeSpec := { name := "effectReads", fn := fun _ => fun
  | [d] => { results := [.lit (.bool false)], args := [d] }
  | _ => none }
def EffectReadsWrongFalsely : Prop := effectReadsRow.holds Try.pinned (OpenSpec.ofChange effectReadsWrong)

/-- 'delayslotlaw03.EffectDoes': WHATEVER THE INPUT: true; the input reads as it did. -/
def effectDoesSpec : ChangeSpec := { name := "effectDoes", fn := fun _ => fun
  | [d] => { results := [.lit (.bool true)], args := [d] }
  | _ => none }
def effectDoesRow : OpenClaim := { program := "ythocajnpofdbmaa", sum := "4a650f25454d7313d49d9557fdf921d6b9e64669af3eed89e7afbf269baec189", func := "delayslot/delayslotlaw03.EffectDoes", spec := "effectDoes", unfollowed := true, recurses := true, apart := false }
def EffectDoesSaid : Prop := effectDoesRow.holds Try.pinned (OpenSpec.ofChange effectDoesSpec)

/-- ITS FALSE NEIGHBOUR: 'it returns false'. Refute it at one input. -/
def effectDoesWrong : ChangeSpec := { name := "effectDoes", fn := fun _ => fun
  | [d] => { results := [.lit (.bool false)], args := [d] }
  | _ => none }
def EffectDoesWrongFalsely : Prop := effectDoesRow.holds Try.pinned (OpenSpec.ofChange effectDoesWrong)

/-- 'delayslotlaw03.EffectOne': WHATEVER THE INPUT: true; the input reads as it did. -/
def effectOneSpec : ChangeSpec := { name := "effectOne", fn := fun _ => fun
  | [d] => { results := [.lit (.bool true)], args := [d] }
  | _ => none }
def effectOneRow : OpenClaim := { program := "ythocajnpofdbmaa", sum := "4a650f25454d7313d49d9557fdf921d6b9e64669af3eed89e7afbf269baec189", func := "delayslot/delayslotlaw03.EffectOne", spec := "effectOne", unfollowed := true, recurses := true, apart := false }
def EffectOneSaid : Prop := effectOneRow.holds Try.pinned (OpenSpec.ofChange effectOneSpec)

/-- ITS FALSE NEIGHBOUR: 'it returns false'. Refute it at one input. -/
def effectOneWrong : ChangeSpec := { name := "effectOne", fn := fun _ => fun
  | [d] => { results := [.lit (.bool false)], args := [d] }
  | _ => none }
def EffectOneWrongFalsely : Prop := effectOneRow.holds Try.pinned (OpenSpec.ofChange effectOneWrong)

/-- 'delayslotlaw03.EffectNone': WHATEVER THE INPUT: true; the input reads as it did. -/
def effectNoneSpec : ChangeSpec := { name := "effectNone", fn := fun _ => fun
  | [d1, d2, d3, d4] => { results := [.lit (.bool true)], args := [d1, d2, d3, d4] }
  | _ => none }
def effectNoneRow : OpenClaim := { program := "ythocajnpofdbmaa", sum := "4a650f25454d7313d49d9557fdf921d6b9e64669af3eed89e7afbf269baec189", func := "delayslot/delayslotlaw03.EffectNone", spec := "effectNone", unfollowed := true, recurses := true, apart := false }
def EffectNoneSaid : Prop := effectNoneRow.holds Try.pinned (OpenSpec.ofChange effectNoneSpec)

/-- ITS FALSE NEIGHBOUR: 'it returns false'. Refute it at one input. -/
def effectNoneWrong : ChangeSpec := { name := "effectNone", fn := fun _ => fun
  | [d1, d2, d3, d4] => { results := [.lit (.bool false)], args := [d1, d2, d3, d4] }
  | _ => none }
def EffectNoneWrongFalsely : Prop := effectNoneRow.holds Try.pinned (OpenSpec.ofChange effectNoneWrong)

/-- 'delayslotlaw03.EffectStops': WHATEVER THE INPUT: true; the input reads as it did. -/
def effectStopsSpec : ChangeSpec := { name := "effectStops", fn := fun _ => fun
  | [d1, d2] => { results := [.lit (.bool true)], args := [d1, d2] }
  | _ => none }
def effectStopsRow : OpenClaim := { program := "ythocajnpofdbmaa", sum := "4a650f25454d7313d49d9557fdf921d6b9e64669af3eed89e7afbf269baec189", func := "delayslot/delayslotlaw03.EffectStops", spec := "effectStops", unfollowed := true, recurses := true, apart := false }
def EffectStopsSaid : Prop := effectStopsRow.holds Try.pinned (OpenSpec.ofChange effectStopsSpec)

/-- ITS FALSE NEIGHBOUR: 'it returns false'. Refute it at one input. -/
def effectStopsWrong : ChangeSpec := { name := "effectStops", fn := fun _ => fun
  | [d1, d2] => { results := [.lit (.bool false)], args := [d1, d2] }
  | _ => none }
def EffectStopsWrongFalsely : Prop := effectStopsRow.holds Try.pinned (OpenSpec.ofChange effectStopsWrong)

/-- 'delayslotlaw03.EffectOwn': WHATEVER THE INPUT: true; the input reads as it did. -/
def effectOwnSpec : ChangeSpec := { name := "effectOwn", fn := fun _ => fun
  | [d] => { results := [.lit (.bool true)], args := [d] }
  | _ => none }
def effectOwnRow : OpenClaim := { program := "ythocajnpofdbmaa", sum := "4a650f25454d7313d49d9557fdf921d6b9e64669af3eed89e7afbf269baec189", func := "delayslot/delayslotlaw03.EffectOwn", spec := "effectOwn", unfollowed := true, recurses := true, apart := false }
def EffectOwnSaid : Prop := effectOwnRow.holds Try.pinned (OpenSpec.ofChange effectOwnSpec)

/-- ITS FALSE NEIGHBOUR: 'it returns false'. Refute it at one input. -/
def effectOwnWrong : ChangeSpec := { name := "effectOwn", fn := fun _ => fun
  | [d] => { results := [.lit (.bool false)], args := [d] }
  | _ => none }
def EffectOwnWrongFalsely : Prop := effectOwnRow.holds Try.pinned (OpenSpec.ofChange effectOwnWrong)

/-- 'delayslotlaw12.HazardFirst': WHATEVER THE INPUT: true; the input reads as it did. -/
def hazardFirstSpec : ChangeSpec := { name := "hazardFirst", fn := fun _ => fun
  | [d1, d2] => { results := [.lit (.bool true)], args := [d1, d2] }
  | _ => none }
def hazardFirstRow : OpenClaim := { program := "ythocajnpofdbmaa", sum := "4a650f25454d7313d49d9557fdf921d6b9e64669af3eed89e7afbf269baec189", func := "delayslot/delayslotlaw12.HazardFirst", spec := "hazardFirst", unfollowed := true, recurses := true, apart := false }
def HazardFirstSaid : Prop := hazardFirstRow.holds Try.pinned (OpenSpec.ofChange hazardFirstSpec)

/-- ITS FALSE NEIGHBOUR: 'it returns false'. Refute it at one input. -/
def hazardFirstWrong : ChangeSpec := { name := "hazardFirst", fn := fun _ => fun
  | [d1, d2] => { results := [.lit (.bool false)], args := [d1, d2] }
  | _ => none }
def HazardFirstWrongFalsely : Prop := hazardFirstRow.holds Try.pinned (OpenSpec.ofChange hazardFirstWrong)

/-- 'delayslotlaw12.HazardJoins': WHATEVER THE INPUT: true; the input reads as it did. -/
def hazardJoinsSpec : ChangeSpec := { name := "hazardJoins", fn := fun _ => fun
  | [d1, d2] => { results := [.lit (.bool true)], args := [d1, d2] }
  | _ => none }
def hazardJoinsRow : OpenClaim := { program := "ythocajnpofdbmaa", sum := "4a650f25454d7313d49d9557fdf921d6b9e64669af3eed89e7afbf269baec189", func := "delayslot/delayslotlaw12.HazardJoins", spec := "hazardJoins", unfollowed := true, recurses := true, apart := false }
def HazardJoinsSaid : Prop := hazardJoinsRow.holds Try.pinned (OpenSpec.ofChange hazardJoinsSpec)

/-- ITS FALSE NEIGHBOUR: 'it returns false'. Refute it at one input. -/
def hazardJoinsWrong : ChangeSpec := { name := "hazardJoins", fn := fun _ => fun
  | [d1, d2] => { results := [.lit (.bool false)], args := [d1, d2] }
  | _ => none }
def HazardJoinsWrongFalsely : Prop := hazardJoinsRow.holds Try.pinned (OpenSpec.ofChange hazardJoinsWrong)

/-- 'delayslotlaw12.HazardSpaced': WHATEVER THE INPUT: true; the input reads as it did. -/
def hazardSpacedSpec : ChangeSpec := { name := "hazardSpaced", fn := fun _ => fun
  | [d] => { results := [.lit (.bool true)], args := [d] }
  | _ => none }
def hazardSpacedRow : OpenClaim := { program := "ythocajnpofdbmaa", sum := "4a650f25454d7313d49d9557fdf921d6b9e64669af3eed89e7afbf269baec189", func := "delayslot/delayslotlaw12.HazardSpaced", spec := "hazardSpaced", unfollowed := true, recurses := true, apart := false }
def HazardSpacedSaid : Prop := hazardSpacedRow.holds Try.pinned (OpenSpec.ofChange hazardSpacedSpec)

/-- ITS FALSE NEIGHBOUR: 'it returns false'. Refute it at one input. -/
def hazardSpacedWrong : ChangeSpec := { name := "hazardSpaced", fn := fun _ => fun
  | [d] => { results := [.lit (.bool false)], args := [d] }
  | _ => none }
def HazardSpacedWrongFalsely : Prop := hazardSpacedRow.holds Try.pinned (OpenSpec.ofChange hazardSpacedWrong)

/-- 'delayslotlaw12.HazardPlain': WHATEVER THE INPUT: true; the input reads as it did. -/
def hazardPlainSpec : ChangeSpec := { name := "hazardPlain", fn := fun _ => fun
  | [d1, d2] => { results := [.lit (.bool true)], args := [d1, d2] }
  | _ => none }
def hazardPlainRow : OpenClaim := { program := "ythocajnpofdbmaa", sum := "4a650f25454d7313d49d9557fdf921d6b9e64669af3eed89e7afbf269baec189", func := "delayslot/delayslotlaw12.HazardPlain", spec := "hazardPlain", unfollowed := true, recurses := true, apart := false }
def HazardPlainSaid : Prop := hazardPlainRow.holds Try.pinned (OpenSpec.ofChange hazardPlainSpec)

/-- ITS FALSE NEIGHBOUR: 'it returns false'. Refute it at one input. -/
def hazardPlainWrong : ChangeSpec := { name := "hazardPlain", fn := fun _ => fun
  | [d1, d2] => { results := [.lit (.bool false)], args := [d1, d2] }
  | _ => none }
def HazardPlainWrongFalsely : Prop := hazardPlainRow.holds Try.pinned (OpenSpec.ofChange hazardPlainWrong)

/-- 'delayslotlaw12.HazardLate': WHATEVER THE INPUT: true; the input reads as it did. -/
def hazardLateSpec : ChangeSpec := { name := "hazardLate", fn := fun _ => fun
  | [d1, d2] => { results := [.lit (.bool true)], args := [d1, d2] }
  | _ => none }
def hazardLateRow : OpenClaim := { program := "ythocajnpofdbmaa", sum := "4a650f25454d7313d49d9557fdf921d6b9e64669af3eed89e7afbf269baec189", func := "delayslot/delayslotlaw12.HazardLate", spec := "hazardLate", unfollowed := true, recurses := true, apart := false }
def HazardLateSaid : Prop := hazardLateRow.holds Try.pinned (OpenSpec.ofChange hazardLateSpec)

/-- ITS FALSE NEIGHBOUR: 'it returns false'. Refute it at one input. -/
def hazardLateWrong : ChangeSpec := { name := "hazardLate", fn := fun _ => fun
  | [d1, d2] => { results := [.lit (.bool false)], args := [d1, d2] }
  | _ => none }
def HazardLateWrongFalsely : Prop := hazardLateRow.holds Try.pinned (OpenSpec.ofChange hazardLateWrong)

/-- 'delayslotlaw10.DependFar': WHATEVER THE INPUT: true; the input reads as it did. -/
def dependFarSpec : ChangeSpec := { name := "dependFar", fn := fun _ => fun
  | [d1, d2] => { results := [.lit (.bool true)], args := [d1, d2] }
  | _ => none }
def dependFarRow : OpenClaim := { program := "ythocajnpofdbmaa", sum := "4a650f25454d7313d49d9557fdf921d6b9e64669af3eed89e7afbf269baec189", func := "delayslot/delayslotlaw10.DependFar", spec := "dependFar", unfollowed := true, recurses := true, apart := false }
def DependFarSaid : Prop := dependFarRow.holds Try.pinned (OpenSpec.ofChange dependFarSpec)

/-- ITS FALSE NEIGHBOUR: 'it returns false'. Refute it at one input. -/
def dependFarWrong : ChangeSpec := { name := "dependFar", fn := fun _ => fun
  | [d1, d2] => { results := [.lit (.bool false)], args := [d1, d2] }
  | _ => none }
def DependFarWrongFalsely : Prop := dependFarRow.holds Try.pinned (OpenSpec.ofChange dependFarWrong)

/-- 'delayslotlaw10.DependHeights': WHATEVER THE INPUT: true; the input reads as it did. -/
def dependHeightsSpec : ChangeSpec := { name := "dependHeights", fn := fun _ => fun
  | [d] => { results := [.lit (.bool true)], args := [d] }
  | _ => none }
def dependHeightsRow : OpenClaim := { program := "ythocajnpofdbmaa", sum := "4a650f25454d7313d49d9557fdf921d6b9e64669af3eed89e7afbf269baec189", func := "delayslot/delayslotlaw10.DependHeights", spec := "dependHeights", unfollowed := true, recurses := true, apart := false }
def DependHeightsSaid : Prop := dependHeightsRow.holds Try.pinned (OpenSpec.ofChange dependHeightsSpec)

/-- ITS FALSE NEIGHBOUR: 'it returns false'. Refute it at one input. -/
def dependHeightsWrong : ChangeSpec := { name := "dependHeights", fn := fun _ => fun
  | [d] => { results := [.lit (.bool false)], args := [d] }
  | _ => none }
def DependHeightsWrongFalsely : Prop := dependHeightsRow.holds Try.pinned (OpenSpec.ofChange dependHeightsWrong)

/-- 'delayslotlaw10.DependKeeps': WHATEVER THE INPUT: true; the input reads as it did. -/
def dependKeepsSpec : ChangeSpec := { name := "dependKeeps", fn := fun _ => fun
  | [d1, d2] => { results := [.lit (.bool true)], args := [d1, d2] }
  | _ => none }
def dependKeepsRow : OpenClaim := { program := "ythocajnpofdbmaa", sum := "4a650f25454d7313d49d9557fdf921d6b9e64669af3eed89e7afbf269baec189", func := "delayslot/delayslotlaw10.DependKeeps", spec := "dependKeeps", unfollowed := true, recurses := true, apart := false }
def DependKeepsSaid : Prop := dependKeepsRow.holds Try.pinned (OpenSpec.ofChange dependKeepsSpec)

/-- ITS FALSE NEIGHBOUR: 'it returns false'. Refute it at one input. -/
def dependKeepsWrong : ChangeSpec := { name := "dependKeeps", fn := fun _ => fun
  | [d1, d2] => { results := [.lit (.bool false)], args := [d1, d2] }
  | _ => none }
def DependKeepsWrongFalsely : Prop := dependKeepsRow.holds Try.pinned (OpenSpec.ofChange dependKeepsWrong)

/-- 'delayslotlaw10.DependPlain': WHATEVER THE INPUT: true; the input reads as it did. -/
def dependPlainSpec : ChangeSpec := { name := "dependPlain", fn := fun _ => fun
  | [d] => { results := [.lit (.bool true)], args := [d] }
  | _ => none }
def dependPlainRow : OpenClaim := { program := "ythocajnpofdbmaa", sum := "4a650f25454d7313d49d9557fdf921d6b9e64669af3eed89e7afbf269baec189", func := "delayslot/delayslotlaw10.DependPlain", spec := "dependPlain", unfollowed := true, recurses := true, apart := false }
def DependPlainSaid : Prop := dependPlainRow.holds Try.pinned (OpenSpec.ofChange dependPlainSpec)

/-- ITS FALSE NEIGHBOUR: 'it returns false'. Refute it at one input. -/
def dependPlainWrong : ChangeSpec := { name := "dependPlain", fn := fun _ => fun
  | [d] => { results := [.lit (.bool false)], args := [d] }
  | _ => none }
def DependPlainWrongFalsely : Prop := dependPlainRow.holds Try.pinned (OpenSpec.ofChange dependPlainWrong)

/-- 'delayslotlaw10.DependPairs': WHATEVER THE INPUT: true; the input reads as it did. -/
def dependPairsSpec : ChangeSpec := { name := "dependPairs", fn := fun _ => fun
  | [d1, d2] => { results := [.lit (.bool true)], args := [d1, d2] }
  | _ => none }
def dependPairsRow : OpenClaim := { program := "ythocajnpofdbmaa", sum := "4a650f25454d7313d49d9557fdf921d6b9e64669af3eed89e7afbf269baec189", func := "delayslot/delayslotlaw10.DependPairs", spec := "dependPairs", unfollowed := true, recurses := true, apart := false }
def DependPairsSaid : Prop := dependPairsRow.holds Try.pinned (OpenSpec.ofChange dependPairsSpec)

/-- ITS FALSE NEIGHBOUR: 'it returns false'. Refute it at one input. -/
def dependPairsWrong : ChangeSpec := { name := "dependPairs", fn := fun _ => fun
  | [d1, d2] => { results := [.lit (.bool false)], args := [d1, d2] }
  | _ => none }
def DependPairsWrongFalsely : Prop := dependPairsRow.holds Try.pinned (OpenSpec.ofChange dependPairsWrong)

/-- 'delayslotlaw10.DependHigh': WHATEVER THE INPUT: true; the input reads as it did. -/
def dependHighSpec : ChangeSpec := { name := "dependHigh", fn := fun _ => fun
  | [d1, d2] => { results := [.lit (.bool true)], args := [d1, d2] }
  | _ => none }
def dependHighRow : OpenClaim := { program := "ythocajnpofdbmaa", sum := "4a650f25454d7313d49d9557fdf921d6b9e64669af3eed89e7afbf269baec189", func := "delayslot/delayslotlaw10.DependHigh", spec := "dependHigh", unfollowed := true, recurses := true, apart := false }
def DependHighSaid : Prop := dependHighRow.holds Try.pinned (OpenSpec.ofChange dependHighSpec)

/-- ITS FALSE NEIGHBOUR: 'it returns false'. Refute it at one input. -/
def dependHighWrong : ChangeSpec := { name := "dependHigh", fn := fun _ => fun
  | [d1, d2] => { results := [.lit (.bool false)], args := [d1, d2] }
  | _ => none }
def DependHighWrongFalsely : Prop := dependHighRow.holds Try.pinned (OpenSpec.ofChange dependHighWrong)

/-- 'delayslotlaw10.DependLate': WHATEVER THE INPUT: true; the input reads as it did. -/
def dependLateSpec : ChangeSpec := { name := "dependLate", fn := fun _ => fun
  | [d1, d2] => { results := [.lit (.bool true)], args := [d1, d2] }
  | _ => none }
def dependLateRow : OpenClaim := { program := "ythocajnpofdbmaa", sum := "4a650f25454d7313d49d9557fdf921d6b9e64669af3eed89e7afbf269baec189", func := "delayslot/delayslotlaw10.DependLate", spec := "dependLate", unfollowed := true, recurses := true, apart := false }
def DependLateSaid : Prop := dependLateRow.holds Try.pinned (OpenSpec.ofChange dependLateSpec)

/-- ITS FALSE NEIGHBOUR: 'it returns false'. Refute it at one input. -/
def dependLateWrong : ChangeSpec := { name := "dependLate", fn := fun _ => fun
  | [d1, d2] => { results := [.lit (.bool false)], args := [d1, d2] }
  | _ => none }
def DependLateWrongFalsely : Prop := dependLateRow.holds Try.pinned (OpenSpec.ofChange dependLateWrong)

/- THE SECOND FORM. 'bulk': how many values and letters a reading holds, each counted each time it is reached (what is shared counts as often as it is met; a slice's spare places count too). A statement '..UptoSaid' is the law's where the arguments, and the package variables that the reading takes, are together of bulk at most 1048576: NARROWER than '..Said'. Prove '..Said' where nothing that the law and all that it calls make is longer than what came in: it says more and counts as full. Else prove '..UptoSaid'. A law counts once. -/
mutual
def uptoBulk {H : Type} : DataW H → Nat
  | .lit (.string bytes) => bytes.length + 1
  | .lit _ => 1
  | .nil => 1
  | .ptr d => uptoBulk d + 1
  | .slice elems spare => uptoBulkAll elems + uptoBulkAll spare + 1
  | .agg parts => uptoBulkAll parts + 1
  | .iface _ d => uptoBulk d + 1
  | .map entries => uptoBulkEntries entries + 1
  | .held _ => 1
def uptoBulkAll {H : Type} : List (DataW H) → Nat
  | [] => 0
  | d :: r => uptoBulk d + uptoBulkAll r
def uptoBulkEntries {H : Type} : List (Lit × DataW H) → Nat
  | [] => 0
  | x :: r => uptoBulkEntry x + uptoBulkEntries r
def uptoBulkEntry {H : Type} : Lit × DataW H → Nat
  | (.string bytes, d) => bytes.length + uptoBulk d + 1
  | (_, d) => uptoBulk d + 1
 end
def uptoSmall : (H : Type) → List (DataW H) → Bool := fun _ ds => decide (uptoBulkAll ds ≤ 1048576)
def OpenSpec.upto (s : _root_.Go.ChangeSpec) : _root_.Go.OpenSpec := { _root_.Go.OpenSpec.ofChange s with cond := some uptoSmall }

/-- 'delayslotlaw03.EffectReads', WHERE WHAT IT READS IS OF BULK AT MOST 1048576: true; the input reads as it did. -/
def effectReadsUptoRow : OpenClaim := { program := "ythocajnpofdbmaa", sum := "4a650f25454d7313d49d9557fdf921d6b9e64669af3eed89e7afbf269baec189", func := "delayslot/delayslotlaw03.EffectReads", spec := "effectReads", unfollowed := true, recurses := true, apart := false, narrowed := true }
def EffectReadsUptoSaid : Prop := effectReadsUptoRow.holds Try.pinned (OpenSpec.upto effectReadsSpec)

/-- 'delayslotlaw03.EffectDoes', WHERE WHAT IT READS IS OF BULK AT MOST 1048576: true; the input reads as it did. -/
def effectDoesUptoRow : OpenClaim := { program := "ythocajnpofdbmaa", sum := "4a650f25454d7313d49d9557fdf921d6b9e64669af3eed89e7afbf269baec189", func := "delayslot/delayslotlaw03.EffectDoes", spec := "effectDoes", unfollowed := true, recurses := true, apart := false, narrowed := true }
def EffectDoesUptoSaid : Prop := effectDoesUptoRow.holds Try.pinned (OpenSpec.upto effectDoesSpec)

/-- 'delayslotlaw03.EffectOne', WHERE WHAT IT READS IS OF BULK AT MOST 1048576: true; the input reads as it did. -/
def effectOneUptoRow : OpenClaim := { program := "ythocajnpofdbmaa", sum := "4a650f25454d7313d49d9557fdf921d6b9e64669af3eed89e7afbf269baec189", func := "delayslot/delayslotlaw03.EffectOne", spec := "effectOne", unfollowed := true, recurses := true, apart := false, narrowed := true }
def EffectOneUptoSaid : Prop := effectOneUptoRow.holds Try.pinned (OpenSpec.upto effectOneSpec)

/-- 'delayslotlaw03.EffectNone', WHERE WHAT IT READS IS OF BULK AT MOST 1048576: true; the input reads as it did. -/
def effectNoneUptoRow : OpenClaim := { program := "ythocajnpofdbmaa", sum := "4a650f25454d7313d49d9557fdf921d6b9e64669af3eed89e7afbf269baec189", func := "delayslot/delayslotlaw03.EffectNone", spec := "effectNone", unfollowed := true, recurses := true, apart := false, narrowed := true }
def EffectNoneUptoSaid : Prop := effectNoneUptoRow.holds Try.pinned (OpenSpec.upto effectNoneSpec)

/-- 'delayslotlaw03.EffectStops', WHERE WHAT IT READS IS OF BULK AT MOST 1048576: true; the input reads as it did. -/
def effectStopsUptoRow : OpenClaim := { program := "ythocajnpofdbmaa", sum := "4a650f25454d7313d49d9557fdf921d6b9e64669af3eed89e7afbf269baec189", func := "delayslot/delayslotlaw03.EffectStops", spec := "effectStops", unfollowed := true, recurses := true, apart := false, narrowed := true }
def EffectStopsUptoSaid : Prop := effectStopsUptoRow.holds Try.pinned (OpenSpec.upto effectStopsSpec)

/-- 'delayslotlaw03.EffectOwn', WHERE WHAT IT READS IS OF BULK AT MOST 1048576: true; the input reads as it did. -/
def effectOwnUptoRow : OpenClaim := { program := "ythocajnpofdbmaa", sum := "4a650f25454d7313d49d9557fdf921d6b9e64669af3eed89e7afbf269baec189", func := "delayslot/delayslotlaw03.EffectOwn", spec := "effectOwn", unfollowed := true, recurses := true, apart := false, narrowed := true }
def EffectOwnUptoSaid : Prop := effectOwnUptoRow.holds Try.pinned (OpenSpec.upto effectOwnSpec)

/-- 'delayslotlaw12.HazardFirst', WHERE WHAT IT READS IS OF BULK AT MOST 1048576: true; the input reads as it did. -/
def hazardFirstUptoRow : OpenClaim := { program := "ythocajnpofdbmaa", sum := "4a650f25454d7313d49d9557fdf921d6b9e64669af3eed89e7afbf269baec189", func := "delayslot/delayslotlaw12.HazardFirst", spec := "hazardFirst", unfollowed := true, recurses := true, apart := false, narrowed := true }
def HazardFirstUptoSaid : Prop := hazardFirstUptoRow.holds Try.pinned (OpenSpec.upto hazardFirstSpec)

/-- 'delayslotlaw12.HazardJoins', WHERE WHAT IT READS IS OF BULK AT MOST 1048576: true; the input reads as it did. -/
def hazardJoinsUptoRow : OpenClaim := { program := "ythocajnpofdbmaa", sum := "4a650f25454d7313d49d9557fdf921d6b9e64669af3eed89e7afbf269baec189", func := "delayslot/delayslotlaw12.HazardJoins", spec := "hazardJoins", unfollowed := true, recurses := true, apart := false, narrowed := true }
def HazardJoinsUptoSaid : Prop := hazardJoinsUptoRow.holds Try.pinned (OpenSpec.upto hazardJoinsSpec)

/-- 'delayslotlaw12.HazardSpaced', WHERE WHAT IT READS IS OF BULK AT MOST 1048576: true; the input reads as it did. -/
def hazardSpacedUptoRow : OpenClaim := { program := "ythocajnpofdbmaa", sum := "4a650f25454d7313d49d9557fdf921d6b9e64669af3eed89e7afbf269baec189", func := "delayslot/delayslotlaw12.HazardSpaced", spec := "hazardSpaced", unfollowed := true, recurses := true, apart := false, narrowed := true }
def HazardSpacedUptoSaid : Prop := hazardSpacedUptoRow.holds Try.pinned (OpenSpec.upto hazardSpacedSpec)

/-- 'delayslotlaw12.HazardPlain', WHERE WHAT IT READS IS OF BULK AT MOST 1048576: true; the input reads as it did. -/
def hazardPlainUptoRow : OpenClaim := { program := "ythocajnpofdbmaa", sum := "4a650f25454d7313d49d9557fdf921d6b9e64669af3eed89e7afbf269baec189", func := "delayslot/delayslotlaw12.HazardPlain", spec := "hazardPlain", unfollowed := true, recurses := true, apart := false, narrowed := true }
def HazardPlainUptoSaid : Prop := hazardPlainUptoRow.holds Try.pinned (OpenSpec.upto hazardPlainSpec)

/-- 'delayslotlaw12.HazardLate', WHERE WHAT IT READS IS OF BULK AT MOST 1048576: true; the input reads as it did. -/
def hazardLateUptoRow : OpenClaim := { program := "ythocajnpofdbmaa", sum := "4a650f25454d7313d49d9557fdf921d6b9e64669af3eed89e7afbf269baec189", func := "delayslot/delayslotlaw12.HazardLate", spec := "hazardLate", unfollowed := true, recurses := true, apart := false, narrowed := true }
def HazardLateUptoSaid : Prop := hazardLateUptoRow.holds Try.pinned (OpenSpec.upto hazardLateSpec)

/-- 'delayslotlaw10.DependFar', WHERE WHAT IT READS IS OF BULK AT MOST 1048576: true; the input reads as it did. -/
def dependFarUptoRow : OpenClaim := { program := "ythocajnpofdbmaa", sum := "4a650f25454d7313d49d9557fdf921d6b9e64669af3eed89e7afbf269baec189", func := "delayslot/delayslotlaw10.DependFar", spec := "dependFar", unfollowed := true, recurses := true, apart := false, narrowed := true }
def DependFarUptoSaid : Prop := dependFarUptoRow.holds Try.pinned (OpenSpec.upto dependFarSpec)

/-- 'delayslotlaw10.DependHeights', WHERE WHAT IT READS IS OF BULK AT MOST 1048576: true; the input reads as it did. -/
def dependHeightsUptoRow : OpenClaim := { program := "ythocajnpofdbmaa", sum := "4a650f25454d7313d49d9557fdf921d6b9e64669af3eed89e7afbf269baec189", func := "delayslot/delayslotlaw10.DependHeights", spec := "dependHeights", unfollowed := true, recurses := true, apart := false, narrowed := true }
def DependHeightsUptoSaid : Prop := dependHeightsUptoRow.holds Try.pinned (OpenSpec.upto dependHeightsSpec)

/-- 'delayslotlaw10.DependKeeps', WHERE WHAT IT READS IS OF BULK AT MOST 1048576: true; the input reads as it did. -/
def dependKeepsUptoRow : OpenClaim := { program := "ythocajnpofdbmaa", sum := "4a650f25454d7313d49d9557fdf921d6b9e64669af3eed89e7afbf269baec189", func := "delayslot/delayslotlaw10.DependKeeps", spec := "dependKeeps", unfollowed := true, recurses := true, apart := false, narrowed := true }
def DependKeepsUptoSaid : Prop := dependKeepsUptoRow.holds Try.pinned (OpenSpec.upto dependKeepsSpec)

/-- 'delayslotlaw10.DependPlain', WHERE WHAT IT READS IS OF BULK AT MOST 1048576: true; the input reads as it did. -/
def dependPlainUptoRow : OpenClaim := { program := "ythocajnpofdbmaa", sum := "4a650f25454d7313d49d9557fdf921d6b9e64669af3eed89e7afbf269baec189", func := "delayslot/delayslotlaw10.DependPlain", spec := "dependPlain", unfollowed := true, recurses := true, apart := false, narrowed := true }
def DependPlainUptoSaid : Prop := dependPlainUptoRow.holds Try.pinned (OpenSpec.upto dependPlainSpec)

/-- 'delayslotlaw10.DependPairs', WHERE WHAT IT READS IS OF BULK AT MOST 1048576: true; the input reads as it did. -/
def dependPairsUptoRow : OpenClaim := { program := "ythocajnpofdbmaa", sum := "4a650f25454d7313d49d9557fdf921d6b9e64669af3eed89e7afbf269baec189", func := "delayslot/delayslotlaw10.DependPairs", spec := "dependPairs", unfollowed := true, recurses := true, apart := false, narrowed := true }
def DependPairsUptoSaid : Prop := dependPairsUptoRow.holds Try.pinned (OpenSpec.upto dependPairsSpec)

/-- 'delayslotlaw10.DependHigh', WHERE WHAT IT READS IS OF BULK AT MOST 1048576: true; the input reads as it did. -/
def dependHighUptoRow : OpenClaim := { program := "ythocajnpofdbmaa", sum := "4a650f25454d7313d49d9557fdf921d6b9e64669af3eed89e7afbf269baec189", func := "delayslot/delayslotlaw10.DependHigh", spec := "dependHigh", unfollowed := true, recurses := true, apart := false, narrowed := true }
def DependHighUptoSaid : Prop := dependHighUptoRow.holds Try.pinned (OpenSpec.upto dependHighSpec)

/-- 'delayslotlaw10.DependLate', WHERE WHAT IT READS IS OF BULK AT MOST 1048576: true; the input reads as it did. -/
def dependLateUptoRow : OpenClaim := { program := "ythocajnpofdbmaa", sum := "4a650f25454d7313d49d9557fdf921d6b9e64669af3eed89e7afbf269baec189", func := "delayslot/delayslotlaw10.DependLate", spec := "dependLate", unfollowed := true, recurses := true, apart := false, narrowed := true }
def DependLateUptoSaid : Prop := dependLateUptoRow.holds Try.pinned (OpenSpec.upto dependLateSpec)

end Rows
end Go.Proofs.Ythocajnpofdbmaa
