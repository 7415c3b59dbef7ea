/-
  No cell of these rows narrows 'for every input' (looked for: loops, veiled, ifaces, maps, wideKeys, modest, calm, conditions, laid).
  DERIVED. THE GIVEN ROWS OF THIS SEAT. 18 by the template 'for every input the law returns true; each argument reads behind the call as it read before'; 0 by the template 'total and deterministic' (their statements: YtokbcenkgdpepaaTotals.lean).
  GIVEN WITH THE SEED: the statements are not yours to turn. If you find one false, say at which input.
  Laid BY PROGRAM, IN A SANDBOX (cutbox-rows.mjs): the forced cells as the released guide's own fill.sh prints them over the translation 2618a39e3aa946dc… (all of the seat's roots in one cut). By AI agents, Wed Nov 11 2026. No macro, syntax, notation, axiom, sorry.
-/
import Derived.Test.YtokbcenkgdpepaaChecked
import GoSem.Claim
import GoSem.ClaimJoined
import GoSem.ClaimMapViews
import Derived.JoinedTies
import Derived.KernelRfl
namespace Go.Proofs.Ytokbcenkgdpepaa
/- THE CELL 'sum', in the pinned program and in every row, IS THE sha256 OF THE DUMP (.gsa) THAT YtokbcenkgdpepaaProg.lean LOADS. Nothing in Lean hashes anything: it is a label: what it is worth is what the hold of that sum in a sandbox is worth. -/
noncomputable def Try.pinned : Pinned := { name := "ytokbcenkgdpepaa", sum := "2618a39e3aa946dc6b630a032a2c2e6154eb7f5072d36e76ea991cf0582b40ed", checked := Try.checked }
namespace Rows
def none {H : Type} : Left H := { results := [], args := [] }

/-- 'trufflelaw01.VarintEnds': WHATEVER THE INPUT: true; the input reads as it did. -/
def varintEndsSpec : ChangeSpec := { name := "varintEnds", fn := fun _ => fun
  | [d] => { results := [.lit (.bool true)], args := [d] }
  | _ => none }
def varintEndsRow : OpenClaim := { program := "ytokbcenkgdpepaa", sum := "2618a39e3aa946dc6b630a032a2c2e6154eb7f5072d36e76ea991cf0582b40ed", func := "truffle/trufflelaw01.VarintEnds", spec := "varintEnds", apart := false }
def VarintEndsSaid : Prop := varintEndsRow.holds Try.pinned (OpenSpec.ofChange varintEndsSpec)

/-- ITS FALSE NEIGHBOUR: 'it returns false'. Refute it at one input. -/
def varintEndsWrong : ChangeSpec := { name := "varintEnds", fn := fun _ => fun
  | [d] => { results := [.lit (.bool false)], args := [d] }
  | _ => none }
def VarintEndsWrongFalsely : Prop := varintEndsRow.holds Try.pinned (OpenSpec.ofChange varintEndsWrong)

/-- 'trufflelaw01.VarintStep': WHATEVER THE INPUT: true; the input reads as it did. -/
def varintStepSpec : ChangeSpec := { name := "varintStep", fn := fun _ => fun
  | [d] => { results := [.lit (.bool true)], args := [d] }
  | _ => none }
def varintStepRow : OpenClaim := { program := "ytokbcenkgdpepaa", sum := "2618a39e3aa946dc6b630a032a2c2e6154eb7f5072d36e76ea991cf0582b40ed", func := "truffle/trufflelaw01.VarintStep", spec := "varintStep", apart := false }
def VarintStepSaid : Prop := varintStepRow.holds Try.pinned (OpenSpec.ofChange varintStepSpec)

/-- ITS FALSE NEIGHBOUR: 'it returns false'. Refute it at one input. -/
def varintStepWrong : ChangeSpec := { name := "varintStep", fn := fun _ => fun
  | [d] => { results := [.lit (.bool false)], args := [d] }
  | _ => none }
def VarintStepWrongFalsely : Prop := varintStepRow.holds Try.pinned (OpenSpec.ofChange varintStepWrong)

/-- 'trufflelaw01.VarintBack': WHATEVER THE INPUT: true; the input reads as it did. -/
def varintBackSpec : ChangeSpec := { name := "varintBack", fn := fun _ => fun
  | [d1, d2, d3] => { results := [.lit (.bool true)], args := [d1, d2, d3] }
  | _ => none }
def varintBackRow : OpenClaim := { program := "ytokbcenkgdpepaa", sum := "2618a39e3aa946dc6b630a032a2c2e6154eb7f5072d36e76ea991cf0582b40ed", func := "truffle/trufflelaw01.VarintBack", spec := "varintBack", apart := false }
def VarintBackSaid : Prop := varintBackRow.holds Try.pinned (OpenSpec.ofChange varintBackSpec)

/-- ITS FALSE NEIGHBOUR: 'it returns false'. Refute it at one input. -/
def varintBackWrong : ChangeSpec := { name := "varintBack", fn := fun _ => fun
  | [d1, d2, d3] => { results := [.lit (.bool false)], args := [d1, d2, d3] }
  | _ => none }
def VarintBackWrongFalsely : Prop := varintBackRow.holds Try.pinned (OpenSpec.ofChange varintBackWrong)

/-- 'trufflelaw01.VarintLong': WHATEVER THE INPUT: true; the input reads as it did. -/
def varintLongSpec : ChangeSpec := { name := "varintLong", fn := fun _ => fun
  | [d1, d2] => { results := [.lit (.bool true)], args := [d1, d2] }
  | _ => none }
def varintLongRow : OpenClaim := { program := "ytokbcenkgdpepaa", sum := "2618a39e3aa946dc6b630a032a2c2e6154eb7f5072d36e76ea991cf0582b40ed", func := "truffle/trufflelaw01.VarintLong", spec := "varintLong", apart := false }
def VarintLongSaid : Prop := varintLongRow.holds Try.pinned (OpenSpec.ofChange varintLongSpec)

/-- ITS FALSE NEIGHBOUR: 'it returns false'. Refute it at one input. -/
def varintLongWrong : ChangeSpec := { name := "varintLong", fn := fun _ => fun
  | [d1, d2] => { results := [.lit (.bool false)], args := [d1, d2] }
  | _ => none }
def VarintLongWrongFalsely : Prop := varintLongRow.holds Try.pinned (OpenSpec.ofChange varintLongWrong)

/-- 'trufflelaw01.VarintFix': WHATEVER THE INPUT: true; the input reads as it did. -/
def varintFixSpec : ChangeSpec := { name := "varintFix", fn := fun _ => fun
  | [d1, d2] => { results := [.lit (.bool true)], args := [d1, d2] }
  | _ => none }
def varintFixRow : OpenClaim := { program := "ytokbcenkgdpepaa", sum := "2618a39e3aa946dc6b630a032a2c2e6154eb7f5072d36e76ea991cf0582b40ed", func := "truffle/trufflelaw01.VarintFix", spec := "varintFix", apart := false }
def VarintFixSaid : Prop := varintFixRow.holds Try.pinned (OpenSpec.ofChange varintFixSpec)

/-- ITS FALSE NEIGHBOUR: 'it returns false'. Refute it at one input. -/
def varintFixWrong : ChangeSpec := { name := "varintFix", fn := fun _ => fun
  | [d1, d2] => { results := [.lit (.bool false)], args := [d1, d2] }
  | _ => none }
def VarintFixWrongFalsely : Prop := varintFixRow.holds Try.pinned (OpenSpec.ofChange varintFixWrong)

/-- 'trufflelaw01.VarintWhere': WHATEVER THE INPUT: true; the input reads as it did. -/
def varintWhereSpec : ChangeSpec := { name := "varintWhere", fn := fun _ => fun
  | [d1, d2, d3] => { results := [.lit (.bool true)], args := [d1, d2, d3] }
  | _ => none }
def varintWhereRow : OpenClaim := { program := "ytokbcenkgdpepaa", sum := "2618a39e3aa946dc6b630a032a2c2e6154eb7f5072d36e76ea991cf0582b40ed", func := "truffle/trufflelaw01.VarintWhere", spec := "varintWhere", apart := false }
def VarintWhereSaid : Prop := varintWhereRow.holds Try.pinned (OpenSpec.ofChange varintWhereSpec)

/-- ITS FALSE NEIGHBOUR: 'it returns false'. Refute it at one input. -/
def varintWhereWrong : ChangeSpec := { name := "varintWhere", fn := fun _ => fun
  | [d1, d2, d3] => { results := [.lit (.bool false)], args := [d1, d2, d3] }
  | _ => none }
def VarintWhereWrongFalsely : Prop := varintWhereRow.holds Try.pinned (OpenSpec.ofChange varintWhereWrong)

/-- 'trufflelaw03.TagTells': WHATEVER THE INPUT: true; the input reads as it did. -/
def tagTellsSpec : ChangeSpec := { name := "tagTells", fn := fun _ => fun
  | [d1, d2, d3, d4, d5] => { results := [.lit (.bool true)], args := [d1, d2, d3, d4, d5] }
  | _ => none }
def tagTellsRow : OpenClaim := { program := "ytokbcenkgdpepaa", sum := "2618a39e3aa946dc6b630a032a2c2e6154eb7f5072d36e76ea991cf0582b40ed", func := "truffle/trufflelaw03.TagTells", spec := "tagTells", apart := false }
def TagTellsSaid : Prop := tagTellsRow.holds Try.pinned (OpenSpec.ofChange tagTellsSpec)

/-- ITS FALSE NEIGHBOUR: 'it returns false'. Refute it at one input. -/
def tagTellsWrong : ChangeSpec := { name := "tagTells", fn := fun _ => fun
  | [d1, d2, d3, d4, d5] => { results := [.lit (.bool false)], args := [d1, d2, d3, d4, d5] }
  | _ => none }
def TagTellsWrongFalsely : Prop := tagTellsRow.holds Try.pinned (OpenSpec.ofChange tagTellsWrong)

/-- 'trufflelaw03.TagBack': WHATEVER THE INPUT: true; the input reads as it did. -/
def tagBackSpec : ChangeSpec := { name := "tagBack", fn := fun _ => fun
  | [d1, d2, d3, d4] => { results := [.lit (.bool true)], args := [d1, d2, d3, d4] }
  | _ => none }
def tagBackRow : OpenClaim := { program := "ytokbcenkgdpepaa", sum := "2618a39e3aa946dc6b630a032a2c2e6154eb7f5072d36e76ea991cf0582b40ed", func := "truffle/trufflelaw03.TagBack", spec := "tagBack", apart := false }
def TagBackSaid : Prop := tagBackRow.holds Try.pinned (OpenSpec.ofChange tagBackSpec)

/-- ITS FALSE NEIGHBOUR: 'it returns false'. Refute it at one input. -/
def tagBackWrong : ChangeSpec := { name := "tagBack", fn := fun _ => fun
  | [d1, d2, d3, d4] => { results := [.lit (.bool false)], args := [d1, d2, d3, d4] }
  | _ => none }
def TagBackWrongFalsely : Prop := tagBackRow.holds Try.pinned (OpenSpec.ofChange tagBackWrong)

/-- 'trufflelaw03.TagWrong': WHATEVER THE INPUT: true; the input reads as it did. -/
def tagWrongSpec : ChangeSpec := { name := "tagWrong", fn := fun _ => fun
  | [d] => { results := [.lit (.bool true)], args := [d] }
  | _ => none }
def tagWrongRow : OpenClaim := { program := "ytokbcenkgdpepaa", sum := "2618a39e3aa946dc6b630a032a2c2e6154eb7f5072d36e76ea991cf0582b40ed", func := "truffle/trufflelaw03.TagWrong", spec := "tagWrong", apart := false }
def TagWrongSaid : Prop := tagWrongRow.holds Try.pinned (OpenSpec.ofChange tagWrongSpec)

/-- ITS FALSE NEIGHBOUR: 'it returns false'. Refute it at one input. -/
def tagWrongWrong : ChangeSpec := { name := "tagWrong", fn := fun _ => fun
  | [d] => { results := [.lit (.bool false)], args := [d] }
  | _ => none }
def TagWrongWrongFalsely : Prop := tagWrongRow.holds Try.pinned (OpenSpec.ofChange tagWrongWrong)

/-- 'trufflelaw03.TagOne': WHATEVER THE INPUT: true; the input reads as it did. -/
def tagOneSpec : ChangeSpec := { name := "tagOne", fn := fun _ => fun
  | [d1, d2, d3, d4] => { results := [.lit (.bool true)], args := [d1, d2, d3, d4] }
  | _ => none }
def tagOneRow : OpenClaim := { program := "ytokbcenkgdpepaa", sum := "2618a39e3aa946dc6b630a032a2c2e6154eb7f5072d36e76ea991cf0582b40ed", func := "truffle/trufflelaw03.TagOne", spec := "tagOne", apart := false }
def TagOneSaid : Prop := tagOneRow.holds Try.pinned (OpenSpec.ofChange tagOneSpec)

/-- ITS FALSE NEIGHBOUR: 'it returns false'. Refute it at one input. -/
def tagOneWrong : ChangeSpec := { name := "tagOne", fn := fun _ => fun
  | [d1, d2, d3, d4] => { results := [.lit (.bool false)], args := [d1, d2, d3, d4] }
  | _ => none }
def TagOneWrongFalsely : Prop := tagOneRow.holds Try.pinned (OpenSpec.ofChange tagOneWrong)

/-- 'trufflelaw03.TagCut': WHATEVER THE INPUT: true; the input reads as it did. -/
def tagCutSpec : ChangeSpec := { name := "tagCut", fn := fun _ => fun
  | [d1, d2, d3] => { results := [.lit (.bool true)], args := [d1, d2, d3] }
  | _ => none }
def tagCutRow : OpenClaim := { program := "ytokbcenkgdpepaa", sum := "2618a39e3aa946dc6b630a032a2c2e6154eb7f5072d36e76ea991cf0582b40ed", func := "truffle/trufflelaw03.TagCut", spec := "tagCut", apart := false }
def TagCutSaid : Prop := tagCutRow.holds Try.pinned (OpenSpec.ofChange tagCutSpec)

/-- ITS FALSE NEIGHBOUR: 'it returns false'. Refute it at one input. -/
def tagCutWrong : ChangeSpec := { name := "tagCut", fn := fun _ => fun
  | [d1, d2, d3] => { results := [.lit (.bool false)], args := [d1, d2, d3] }
  | _ => none }
def TagCutWrongFalsely : Prop := tagCutRow.holds Try.pinned (OpenSpec.ofChange tagCutWrong)

/-- 'trufflelaw01.VarintTells': WHATEVER THE INPUT: true; the input reads as it did. -/
def varintTellsSpec : ChangeSpec := { name := "varintTells", fn := fun _ => fun
  | [d1, d2, d3, d4, d5] => { results := [.lit (.bool true)], args := [d1, d2, d3, d4, d5] }
  | _ => none }
def varintTellsRow : OpenClaim := { program := "ytokbcenkgdpepaa", sum := "2618a39e3aa946dc6b630a032a2c2e6154eb7f5072d36e76ea991cf0582b40ed", func := "truffle/trufflelaw01.VarintTells", spec := "varintTells", apart := false }
def VarintTellsSaid : Prop := varintTellsRow.holds Try.pinned (OpenSpec.ofChange varintTellsSpec)

/-- ITS FALSE NEIGHBOUR: 'it returns false'. Refute it at one input. -/
def varintTellsWrong : ChangeSpec := { name := "varintTells", fn := fun _ => fun
  | [d1, d2, d3, d4, d5] => { results := [.lit (.bool false)], args := [d1, d2, d3, d4, d5] }
  | _ => none }
def VarintTellsWrongFalsely : Prop := varintTellsRow.holds Try.pinned (OpenSpec.ofChange varintTellsWrong)

/-- 'trufflelaw05.RecordParts': WHATEVER THE INPUT: true; the input reads as it did. -/
def recordPartsSpec : ChangeSpec := { name := "recordParts", fn := fun _ => fun
  | [d1, d2] => { results := [.lit (.bool true)], args := [d1, d2] }
  | _ => none }
def recordPartsRow : OpenClaim := { program := "ytokbcenkgdpepaa", sum := "2618a39e3aa946dc6b630a032a2c2e6154eb7f5072d36e76ea991cf0582b40ed", func := "truffle/trufflelaw05.RecordParts", spec := "recordParts", unfollowed := true, recurses := true, apart := false }
def RecordPartsSaid : Prop := recordPartsRow.holds Try.pinned (OpenSpec.ofChange recordPartsSpec)

/-- ITS FALSE NEIGHBOUR: 'it returns false'. Refute it at one input. -/
def recordPartsWrong : ChangeSpec := { name := "recordParts", fn := fun _ => fun
  | [d1, d2] => { results := [.lit (.bool false)], args := [d1, d2] }
  | _ => none }
def RecordPartsWrongFalsely : Prop := recordPartsRow.holds Try.pinned (OpenSpec.ofChange recordPartsWrong)

/-- 'trufflelaw05.RecordBack': WHATEVER THE INPUT: true; the input reads as it did. -/
def recordBackSpec : ChangeSpec := { name := "recordBack", fn := fun _ => fun
  | [d1, d2, d3] => { results := [.lit (.bool true)], args := [d1, d2, d3] }
  | _ => none }
def recordBackRow : OpenClaim := { program := "ytokbcenkgdpepaa", sum := "2618a39e3aa946dc6b630a032a2c2e6154eb7f5072d36e76ea991cf0582b40ed", func := "truffle/trufflelaw05.RecordBack", spec := "recordBack", apart := false }
def RecordBackSaid : Prop := recordBackRow.holds Try.pinned (OpenSpec.ofChange recordBackSpec)

/-- ITS FALSE NEIGHBOUR: 'it returns false'. Refute it at one input. -/
def recordBackWrong : ChangeSpec := { name := "recordBack", fn := fun _ => fun
  | [d1, d2, d3] => { results := [.lit (.bool false)], args := [d1, d2, d3] }
  | _ => none }
def RecordBackWrongFalsely : Prop := recordBackRow.holds Try.pinned (OpenSpec.ofChange recordBackWrong)

/-- 'trufflelaw05.RecordCut': WHATEVER THE INPUT: true; the input reads as it did. -/
def recordCutSpec : ChangeSpec := { name := "recordCut", fn := fun _ => fun
  | [d1, d2, d3] => { results := [.lit (.bool true)], args := [d1, d2, d3] }
  | _ => none }
def recordCutRow : OpenClaim := { program := "ytokbcenkgdpepaa", sum := "2618a39e3aa946dc6b630a032a2c2e6154eb7f5072d36e76ea991cf0582b40ed", func := "truffle/trufflelaw05.RecordCut", spec := "recordCut", apart := false }
def RecordCutSaid : Prop := recordCutRow.holds Try.pinned (OpenSpec.ofChange recordCutSpec)

/-- ITS FALSE NEIGHBOUR: 'it returns false'. Refute it at one input. -/
def recordCutWrong : ChangeSpec := { name := "recordCut", fn := fun _ => fun
  | [d1, d2, d3] => { results := [.lit (.bool false)], args := [d1, d2, d3] }
  | _ => none }
def RecordCutWrongFalsely : Prop := recordCutRow.holds Try.pinned (OpenSpec.ofChange recordCutWrong)

/-- 'trufflelaw05.RecordOne': WHATEVER THE INPUT: true; the input reads as it did. -/
def recordOneSpec : ChangeSpec := { name := "recordOne", fn := fun _ => fun
  | [d1, d2, d3, d4] => { results := [.lit (.bool true)], args := [d1, d2, d3, d4] }
  | _ => none }
def recordOneRow : OpenClaim := { program := "ytokbcenkgdpepaa", sum := "2618a39e3aa946dc6b630a032a2c2e6154eb7f5072d36e76ea991cf0582b40ed", func := "truffle/trufflelaw05.RecordOne", spec := "recordOne", apart := false }
def RecordOneSaid : Prop := recordOneRow.holds Try.pinned (OpenSpec.ofChange recordOneSpec)

/-- ITS FALSE NEIGHBOUR: 'it returns false'. Refute it at one input. -/
def recordOneWrong : ChangeSpec := { name := "recordOne", fn := fun _ => fun
  | [d1, d2, d3, d4] => { results := [.lit (.bool false)], args := [d1, d2, d3, d4] }
  | _ => none }
def RecordOneWrongFalsely : Prop := recordOneRow.holds Try.pinned (OpenSpec.ofChange recordOneWrong)

/-- 'trufflelaw05.RecordTells': WHATEVER THE INPUT: true; the input reads as it did. -/
def recordTellsSpec : ChangeSpec := { name := "recordTells", fn := fun _ => fun
  | [d1, d2, d3, d4, d5] => { results := [.lit (.bool true)], args := [d1, d2, d3, d4, d5] }
  | _ => none }
def recordTellsRow : OpenClaim := { program := "ytokbcenkgdpepaa", sum := "2618a39e3aa946dc6b630a032a2c2e6154eb7f5072d36e76ea991cf0582b40ed", func := "truffle/trufflelaw05.RecordTells", spec := "recordTells", unfollowed := true, recurses := true, apart := false }
def RecordTellsSaid : Prop := recordTellsRow.holds Try.pinned (OpenSpec.ofChange recordTellsSpec)

/-- ITS FALSE NEIGHBOUR: 'it returns false'. Refute it at one input. -/
def recordTellsWrong : ChangeSpec := { name := "recordTells", fn := fun _ => fun
  | [d1, d2, d3, d4, d5] => { results := [.lit (.bool false)], args := [d1, d2, d3, d4, d5] }
  | _ => none }
def RecordTellsWrongFalsely : Prop := recordTellsRow.holds Try.pinned (OpenSpec.ofChange recordTellsWrong)

/-- 'trufflelaw05.RecordMany': WHATEVER THE INPUT: true; the input reads as it did. -/
def recordManySpec : ChangeSpec := { name := "recordMany", fn := fun _ => fun
  | [d] => { results := [.lit (.bool true)], args := [d] }
  | _ => none }
def recordManyRow : OpenClaim := { program := "ytokbcenkgdpepaa", sum := "2618a39e3aa946dc6b630a032a2c2e6154eb7f5072d36e76ea991cf0582b40ed", func := "truffle/trufflelaw05.RecordMany", spec := "recordMany", unfollowed := true, recurses := true, apart := false }
def RecordManySaid : Prop := recordManyRow.holds Try.pinned (OpenSpec.ofChange recordManySpec)

/-- ITS FALSE NEIGHBOUR: 'it returns false'. Refute it at one input. -/
def recordManyWrong : ChangeSpec := { name := "recordMany", fn := fun _ => fun
  | [d] => { results := [.lit (.bool false)], args := [d] }
  | _ => none }
def RecordManyWrongFalsely : Prop := recordManyRow.holds Try.pinned (OpenSpec.ofChange recordManyWrong)

/- THE SECOND FORM. 'bulk': how many values and letters a reading holds, each counted each time it is reached (what is shared counts as often as it is met; a slice's spare places count too). A statement '..UptoSaid' is the law's where the arguments, and the package variables that the reading takes, are together of bulk at most 1048576: NARROWER than '..Said'. Prove '..Said' where nothing that the law and all that it calls make is longer than what came in: it says more and counts as full. Else prove '..UptoSaid'. A law counts once. -/
mutual
def uptoBulk {H : Type} : DataW H → Nat
  | .lit (.string bytes) => bytes.length + 1
  | .lit _ => 1
  | .nil => 1
  | .ptr d => uptoBulk d + 1
  | .slice elems spare => uptoBulkAll elems + uptoBulkAll spare + 1
  | .agg parts => uptoBulkAll parts + 1
  | .iface _ d => uptoBulk d + 1
  | .map entries => uptoBulkEntries entries + 1
  | .held _ => 1
def uptoBulkAll {H : Type} : List (DataW H) → Nat
  | [] => 0
  | d :: r => uptoBulk d + uptoBulkAll r
def uptoBulkEntries {H : Type} : List (Lit × DataW H) → Nat
  | [] => 0
  | x :: r => uptoBulkEntry x + uptoBulkEntries r
def uptoBulkEntry {H : Type} : Lit × DataW H → Nat
  | (.string bytes, d) => bytes.length + uptoBulk d + 1
  | (_, d) => uptoBulk d + 1
 end
def uptoSmall : (H : Type) → List (DataW H) → Bool := fun _ ds => decide (uptoBulkAll ds ≤ 1048576)
def OpenSpec.upto (s : _root_.Go.ChangeSpec) : _root_.Go.OpenSpec := { _root_.Go.OpenSpec.ofChange s with cond := some uptoSmall }

/-- 'trufflelaw01.VarintEnds', WHERE WHAT IT READS IS OF BULK AT MOST 1048576: true; the input reads as it did. -/
def varintEndsUptoRow : OpenClaim := { program := "ytokbcenkgdpepaa", sum := "2618a39e3aa946dc6b630a032a2c2e6154eb7f5072d36e76ea991cf0582b40ed", func := "truffle/trufflelaw01.VarintEnds", spec := "varintEnds", apart := false, narrowed := true }
def VarintEndsUptoSaid : Prop := varintEndsUptoRow.holds Try.pinned (OpenSpec.upto varintEndsSpec)

/-- 'trufflelaw01.VarintStep', WHERE WHAT IT READS IS OF BULK AT MOST 1048576: true; the input reads as it did. -/
def varintStepUptoRow : OpenClaim := { program := "ytokbcenkgdpepaa", sum := "2618a39e3aa946dc6b630a032a2c2e6154eb7f5072d36e76ea991cf0582b40ed", func := "truffle/trufflelaw01.VarintStep", spec := "varintStep", apart := false, narrowed := true }
def VarintStepUptoSaid : Prop := varintStepUptoRow.holds Try.pinned (OpenSpec.upto varintStepSpec)

/-- 'trufflelaw01.VarintBack', WHERE WHAT IT READS IS OF BULK AT MOST 1048576: true; the input reads as it did. -/
def varintBackUptoRow : OpenClaim := { program := "ytokbcenkgdpepaa", sum := "2618a39e3aa946dc6b630a032a2c2e6154eb7f5072d36e76ea991cf0582b40ed", func := "truffle/trufflelaw01.VarintBack", spec := "varintBack", apart := false, narrowed := true }
def VarintBackUptoSaid : Prop := varintBackUptoRow.holds Try.pinned (OpenSpec.upto varintBackSpec)

/-- 'trufflelaw01.VarintLong', WHERE WHAT IT READS IS OF BULK AT MOST 1048576: true; the input reads as it did. -/
def varintLongUptoRow : OpenClaim := { program := "ytokbcenkgdpepaa", sum := "2618a39e3aa946dc6b630a032a2c2e6154eb7f5072d36e76ea991cf0582b40ed", func := "truffle/trufflelaw01.VarintLong", spec := "varintLong", apart := false, narrowed := true }
def VarintLongUptoSaid : Prop := varintLongUptoRow.holds Try.pinned (OpenSpec.upto varintLongSpec)

/-- 'trufflelaw01.VarintFix', WHERE WHAT IT READS IS OF BULK AT MOST 1048576: true; the input reads as it did. -/
def varintFixUptoRow : OpenClaim := { program := "ytokbcenkgdpepaa", sum := "2618a39e3aa946dc6b630a032a2c2e6154eb7f5072d36e76ea991cf0582b40ed", func := "truffle/trufflelaw01.VarintFix", spec := "varintFix", apart := false, narrowed := true }
def VarintFixUptoSaid : Prop := varintFixUptoRow.holds Try.pinned (OpenSpec.upto varintFixSpec)

/-- 'trufflelaw01.VarintWhere', WHERE WHAT IT READS IS OF BULK AT MOST 1048576: true; the input reads as it did. -/
def varintWhereUptoRow : OpenClaim := { program := "ytokbcenkgdpepaa", sum := "2618a39e3aa946dc6b630a032a2c2e6154eb7f5072d36e76ea991cf0582b40ed", func := "truffle/trufflelaw01.VarintWhere", spec := "varintWhere", apart := false, narrowed := true }
def VarintWhereUptoSaid : Prop := varintWhereUptoRow.holds Try.pinned (OpenSpec.upto varintWhereSpec)

/-- 'trufflelaw03.TagTells', WHERE WHAT IT READS IS OF BULK AT MOST 1048576: true; the input reads as it did. -/
def tagTellsUptoRow : OpenClaim := { program := "ytokbcenkgdpepaa", sum := "2618a39e3aa946dc6b630a032a2c2e6154eb7f5072d36e76ea991cf0582b40ed", func := "truffle/trufflelaw03.TagTells", spec := "tagTells", apart := false, narrowed := true }
def TagTellsUptoSaid : Prop := tagTellsUptoRow.holds Try.pinned (OpenSpec.upto tagTellsSpec)

/-- 'trufflelaw03.TagBack', WHERE WHAT IT READS IS OF BULK AT MOST 1048576: true; the input reads as it did. -/
def tagBackUptoRow : OpenClaim := { program := "ytokbcenkgdpepaa", sum := "2618a39e3aa946dc6b630a032a2c2e6154eb7f5072d36e76ea991cf0582b40ed", func := "truffle/trufflelaw03.TagBack", spec := "tagBack", apart := false, narrowed := true }
def TagBackUptoSaid : Prop := tagBackUptoRow.holds Try.pinned (OpenSpec.upto tagBackSpec)

/-- 'trufflelaw03.TagWrong', WHERE WHAT IT READS IS OF BULK AT MOST 1048576: true; the input reads as it did. -/
def tagWrongUptoRow : OpenClaim := { program := "ytokbcenkgdpepaa", sum := "2618a39e3aa946dc6b630a032a2c2e6154eb7f5072d36e76ea991cf0582b40ed", func := "truffle/trufflelaw03.TagWrong", spec := "tagWrong", apart := false, narrowed := true }
def TagWrongUptoSaid : Prop := tagWrongUptoRow.holds Try.pinned (OpenSpec.upto tagWrongSpec)

/-- 'trufflelaw03.TagOne', WHERE WHAT IT READS IS OF BULK AT MOST 1048576: true; the input reads as it did. -/
def tagOneUptoRow : OpenClaim := { program := "ytokbcenkgdpepaa", sum := "2618a39e3aa946dc6b630a032a2c2e6154eb7f5072d36e76ea991cf0582b40ed", func := "truffle/trufflelaw03.TagOne", spec := "tagOne", apart := false, narrowed := true }
def TagOneUptoSaid : Prop := tagOneUptoRow.holds Try.pinned (OpenSpec.upto tagOneSpec)

/-- 'trufflelaw03.TagCut', WHERE WHAT IT READS IS OF BULK AT MOST 1048576: true; the input reads as it did. -/
def tagCutUptoRow : OpenClaim := { program := "ytokbcenkgdpepaa", sum := "2618a39e3aa946dc6b630a032a2c2e6154eb7f5072d36e76ea991cf0582b40ed", func := "truffle/trufflelaw03.TagCut", spec := "tagCut", apart := false, narrowed := true }
def TagCutUptoSaid : Prop := tagCutUptoRow.holds Try.pinned (OpenSpec.upto tagCutSpec)

/-- 'trufflelaw01.VarintTells', WHERE WHAT IT READS IS OF BULK AT MOST 1048576: true; the input reads as it did. -/
def varintTellsUptoRow : OpenClaim := { program := "ytokbcenkgdpepaa", sum := "2618a39e3aa946dc6b630a032a2c2e6154eb7f5072d36e76ea991cf0582b40ed", func := "truffle/trufflelaw01.VarintTells", spec := "varintTells", apart := false, narrowed := true }
def VarintTellsUptoSaid : Prop := varintTellsUptoRow.holds Try.pinned (OpenSpec.upto varintTellsSpec)

/-- 'trufflelaw05.RecordParts', WHERE WHAT IT READS IS OF BULK AT MOST 1048576: true; the input reads as it did. -/
def recordPartsUptoRow : OpenClaim := { program := "ytokbcenkgdpepaa", sum := "2618a39e3aa946dc6b630a032a2c2e6154eb7f5072d36e76ea991cf0582b40ed", func := "truffle/trufflelaw05.RecordParts", spec := "recordParts", unfollowed := true, recurses := true, apart := false, narrowed := true }
def RecordPartsUptoSaid : Prop := recordPartsUptoRow.holds Try.pinned (OpenSpec.upto recordPartsSpec)

/-- 'trufflelaw05.RecordBack', WHERE WHAT IT READS IS OF BULK AT MOST 1048576: true; the input reads as it did. -/
def recordBackUptoRow : OpenClaim := { program := "ytokbcenkgdpepaa", sum := "2618a39e3aa946dc6b630a032a2c2e6154eb7f5072d36e76ea991cf0582b40ed", func := "truffle/trufflelaw05.RecordBack", spec := "recordBack", apart := false, narrowed := true }
def RecordBackUptoSaid : Prop := recordBackUptoRow.holds Try.pinned (OpenSpec.upto recordBackSpec)

/-- 'trufflelaw05.RecordCut', WHERE WHAT IT READS IS OF BULK AT MOST 1048576: true; the input reads as it did. -/
def recordCutUptoRow : OpenClaim := { program := "ytokbcenkgdpepaa", sum := "2618a39e3aa946dc6b630a032a2c2e6154eb7f5072d36e76ea991cf0582b40ed", func := "truffle/trufflelaw05.RecordCut", spec := "recordCut", apart := false, narrowed := true }
def RecordCutUptoSaid : Prop := recordCutUptoRow.holds Try.pinned (OpenSpec.upto recordCutSpec)

/-- 'trufflelaw05.RecordOne', WHERE WHAT IT READS IS OF BULK AT MOST 1048576: true; the input reads as it did. -/
def recordOneUptoRow : OpenClaim := { program := "ytokbcenkgdpepaa", sum := "2618a39e3aa946dc6b630a032a2c2e6154eb7f5072d36e76ea991cf0582b40ed", func := "truffle/trufflelaw05.RecordOne", spec := "recordOne", apart := false, narrowed := true }
def RecordOneUptoSaid : Prop := recordOneUptoRow.holds Try.pinned (OpenSpec.upto recordOneSpec)

/-- 'trufflelaw05.RecordTells', WHERE WHAT IT READS IS OF BULK AT MOST 1048576: true; the input reads as it did. -/
def recordTellsUptoRow : OpenClaim := { program := "ytokbcenkgdpepaa", sum := "2618a39e3aa946dc6b630a032a2c2e6154eb7f5072d36e76ea991cf0582b40ed", func := "truffle/trufflelaw05.RecordTells", spec := "recordTells", unfollowed := true, recurses := true, apart := false, narrowed := true }
def RecordTellsUptoSaid : Prop := recordTellsUptoRow.holds Try.pinned (OpenSpec.upto recordTellsSpec)

/-- 'trufflelaw05.RecordMany', WHERE WHAT IT READS IS OF BULK AT MOST 1048576: true; the input reads as it did. -/
def recordManyUptoRow : OpenClaim := { program := "ytokbcenkgdpepaa", sum := "2618a39e3aa946dc6b630a032a2c2e6154eb7f5072d36e76ea991cf0582b40ed", func := "truffle/trufflelaw05.RecordMany", spec := "recordMany", unfollowed := true, recurses := true, apart := false, narrowed := true }
def RecordManyUptoSaid : Prop := recordManyUptoRow.holds Try.pinned (OpenSpec.upto recordManySpec)

end Rows
end Go.Proofs.Ytokbcenkgdpepaa
