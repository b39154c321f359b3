/-
  No cell of these rows narrows 'for every input' (looked for: loops, veiled, ifaces, maps, wideKeys, modest, calm, conditions, laid).
  DERIVED. THE GIVEN ROWS OF THIS SEAT. 9 by the template 'for every input the law returns true; each argument reads behind the call as it read before'; 0 by the template 'total and deterministic' (their statements: YtpdghiplnlhnfaaTotals.lean).
  GIVEN WITH THE SEED: the statements are not yours to turn. If you find one false, say at which input.
  Laid BY PROGRAM, IN A SANDBOX (cutbox-rows.mjs): the forced cells as the released guide's own fill.sh prints them over the translation 81d879b5904b9ef9… (all of the seat's roots in one cut). By AI agents, Wed Nov 11 2026. No macro, syntax, notation, axiom, sorry.
-/
import Derived.Test.YtpdghiplnlhnfaaChecked
import GoSem.Claim
import GoSem.ClaimJoined
import GoSem.ClaimMapViews
import Derived.JoinedTies
import Derived.KernelRfl
namespace Go.Proofs.Ytpdghiplnlhnfaa
/- THE CELL 'sum', in the pinned program and in every row, IS THE sha256 OF THE DUMP (.gsa) THAT YtpdghiplnlhnfaaProg.lean LOADS. Nothing in Lean hashes anything: it is a label: what it is worth is what the hold of that sum in a sandbox is worth. -/
noncomputable def Try.pinned : Pinned := { name := "ytpdghiplnlhnfaa", sum := "81d879b5904b9ef9ff1d9d5633b0ff9a51cb092fba863e613157ce6fc8a33311", checked := Try.checked }
namespace Rows
def none {H : Type} : Left H := { results := [], args := [] }

/-- 'lumperlaw18.PerfAlone': WHATEVER THE INPUT: true; the input reads as it did. -/
def perfAloneSpec : ChangeSpec := { name := "perfAlone", fn := fun _ => fun
  | [d1, d2, d3, d4] => { results := [.lit (.bool true)], args := [d1, d2, d3, d4] }
  | _ => none }
def perfAloneRow : OpenClaim := { program := "ytpdghiplnlhnfaa", sum := "81d879b5904b9ef9ff1d9d5633b0ff9a51cb092fba863e613157ce6fc8a33311", func := "lumper/lumperlaw18.PerfAlone", spec := "perfAlone", unfollowed := true, recurses := true, apart := false }
def PerfAloneSaid : Prop := perfAloneRow.holds Try.pinned (OpenSpec.ofChange perfAloneSpec)

/-- ITS FALSE NEIGHBOUR: 'it returns false'. Refute it at one input. -/
def perfAloneWrong : ChangeSpec := { name := "perfAlone", fn := fun _ => fun
  | [d1, d2, d3, d4] => { results := [.lit (.bool false)], args := [d1, d2, d3, d4] }
  | _ => none }
def PerfAloneWrongFalsely : Prop := perfAloneRow.holds Try.pinned (OpenSpec.ofChange perfAloneWrong)

/-- 'lumperlaw18.PerfFaults': WHATEVER THE INPUT: true; the input reads as it did. -/
def perfFaultsSpec : ChangeSpec := { name := "perfFaults", fn := fun _ => fun
  | [d1, d2, d3, d4] => { results := [.lit (.bool true)], args := [d1, d2, d3, d4] }
  | _ => none }
def perfFaultsRow : OpenClaim := { program := "ytpdghiplnlhnfaa", sum := "81d879b5904b9ef9ff1d9d5633b0ff9a51cb092fba863e613157ce6fc8a33311", func := "lumper/lumperlaw18.PerfFaults", spec := "perfFaults", unfollowed := true, recurses := true, apart := false }
def PerfFaultsSaid : Prop := perfFaultsRow.holds Try.pinned (OpenSpec.ofChange perfFaultsSpec)

/-- ITS FALSE NEIGHBOUR: 'it returns false'. Refute it at one input. -/
def perfFaultsWrong : ChangeSpec := { name := "perfFaults", fn := fun _ => fun
  | [d1, d2, d3, d4] => { results := [.lit (.bool false)], args := [d1, d2, d3, d4] }
  | _ => none }
def PerfFaultsWrongFalsely : Prop := perfFaultsRow.holds Try.pinned (OpenSpec.ofChange perfFaultsWrong)

/-- 'lumperlaw18.PerfGoals': WHATEVER THE INPUT: true; the input reads as it did. -/
def perfGoalsSpec : ChangeSpec := { name := "perfGoals", fn := fun _ => fun
  | [d1, d2, d3, d4] => { results := [.lit (.bool true)], args := [d1, d2, d3, d4] }
  | _ => none }
def perfGoalsRow : OpenClaim := { program := "ytpdghiplnlhnfaa", sum := "81d879b5904b9ef9ff1d9d5633b0ff9a51cb092fba863e613157ce6fc8a33311", func := "lumper/lumperlaw18.PerfGoals", spec := "perfGoals", unfollowed := true, recurses := true, apart := false }
def PerfGoalsSaid : Prop := perfGoalsRow.holds Try.pinned (OpenSpec.ofChange perfGoalsSpec)

/-- ITS FALSE NEIGHBOUR: 'it returns false'. Refute it at one input. -/
def perfGoalsWrong : ChangeSpec := { name := "perfGoals", fn := fun _ => fun
  | [d1, d2, d3, d4] => { results := [.lit (.bool false)], args := [d1, d2, d3, d4] }
  | _ => none }
def PerfGoalsWrongFalsely : Prop := perfGoalsRow.holds Try.pinned (OpenSpec.ofChange perfGoalsWrong)

/-- 'lumperlaw18.PerfTiers': WHATEVER THE INPUT: true; the input reads as it did. -/
def perfTiersSpec : ChangeSpec := { name := "perfTiers", fn := fun _ => fun
  | [d1, d2, d3] => { results := [.lit (.bool true)], args := [d1, d2, d3] }
  | _ => none }
def perfTiersRow : OpenClaim := { program := "ytpdghiplnlhnfaa", sum := "81d879b5904b9ef9ff1d9d5633b0ff9a51cb092fba863e613157ce6fc8a33311", func := "lumper/lumperlaw18.PerfTiers", spec := "perfTiers", unfollowed := true, recurses := true, apart := false }
def PerfTiersSaid : Prop := perfTiersRow.holds Try.pinned (OpenSpec.ofChange perfTiersSpec)

/-- ITS FALSE NEIGHBOUR: 'it returns false'. Refute it at one input. -/
def perfTiersWrong : ChangeSpec := { name := "perfTiers", fn := fun _ => fun
  | [d1, d2, d3] => { results := [.lit (.bool false)], args := [d1, d2, d3] }
  | _ => none }
def PerfTiersWrongFalsely : Prop := perfTiersRow.holds Try.pinned (OpenSpec.ofChange perfTiersWrong)

/-- 'lumperlaw12.StreamRises': WHATEVER THE INPUT: true; the input reads as it did. -/
def streamRisesSpec : ChangeSpec := { name := "streamRises", fn := fun _ => fun
  | [d1, d2, d3] => { results := [.lit (.bool true)], args := [d1, d2, d3] }
  | _ => none }
def streamRisesRow : OpenClaim := { program := "ytpdghiplnlhnfaa", sum := "81d879b5904b9ef9ff1d9d5633b0ff9a51cb092fba863e613157ce6fc8a33311", func := "lumper/lumperlaw12.StreamRises", spec := "streamRises", unfollowed := true, recurses := true, apart := false }
def StreamRisesSaid : Prop := streamRisesRow.holds Try.pinned (OpenSpec.ofChange streamRisesSpec)

/-- ITS FALSE NEIGHBOUR: 'it returns false'. Refute it at one input. -/
def streamRisesWrong : ChangeSpec := { name := "streamRises", fn := fun _ => fun
  | [d1, d2, d3] => { results := [.lit (.bool false)], args := [d1, d2, d3] }
  | _ => none }
def StreamRisesWrongFalsely : Prop := streamRisesRow.holds Try.pinned (OpenSpec.ofChange streamRisesWrong)

/-- 'lumperlaw12.StreamAlone': WHATEVER THE INPUT: true; the input reads as it did. -/
def streamAloneSpec : ChangeSpec := { name := "streamAlone", fn := fun _ => fun
  | [d1, d2, d3, d4] => { results := [.lit (.bool true)], args := [d1, d2, d3, d4] }
  | _ => none }
def streamAloneRow : OpenClaim := { program := "ytpdghiplnlhnfaa", sum := "81d879b5904b9ef9ff1d9d5633b0ff9a51cb092fba863e613157ce6fc8a33311", func := "lumper/lumperlaw12.StreamAlone", spec := "streamAlone", unfollowed := true, recurses := true, apart := false }
def StreamAloneSaid : Prop := streamAloneRow.holds Try.pinned (OpenSpec.ofChange streamAloneSpec)

/-- ITS FALSE NEIGHBOUR: 'it returns false'. Refute it at one input. -/
def streamAloneWrong : ChangeSpec := { name := "streamAlone", fn := fun _ => fun
  | [d1, d2, d3, d4] => { results := [.lit (.bool false)], args := [d1, d2, d3, d4] }
  | _ => none }
def StreamAloneWrongFalsely : Prop := streamAloneRow.holds Try.pinned (OpenSpec.ofChange streamAloneWrong)

/-- 'lumperlaw12.StreamFlags': WHATEVER THE INPUT: true; the input reads as it did. -/
def streamFlagsSpec : ChangeSpec := { name := "streamFlags", fn := fun _ => fun
  | [d1, d2, d3] => { results := [.lit (.bool true)], args := [d1, d2, d3] }
  | _ => none }
def streamFlagsRow : OpenClaim := { program := "ytpdghiplnlhnfaa", sum := "81d879b5904b9ef9ff1d9d5633b0ff9a51cb092fba863e613157ce6fc8a33311", func := "lumper/lumperlaw12.StreamFlags", spec := "streamFlags", unfollowed := true, recurses := true, apart := false }
def StreamFlagsSaid : Prop := streamFlagsRow.holds Try.pinned (OpenSpec.ofChange streamFlagsSpec)

/-- ITS FALSE NEIGHBOUR: 'it returns false'. Refute it at one input. -/
def streamFlagsWrong : ChangeSpec := { name := "streamFlags", fn := fun _ => fun
  | [d1, d2, d3] => { results := [.lit (.bool false)], args := [d1, d2, d3] }
  | _ => none }
def StreamFlagsWrongFalsely : Prop := streamFlagsRow.holds Try.pinned (OpenSpec.ofChange streamFlagsWrong)

/-- 'lumperlaw12.StreamClock': WHATEVER THE INPUT: true; the input reads as it did. -/
def streamClockSpec : ChangeSpec := { name := "streamClock", fn := fun _ => fun
  | [d1, d2, d3] => { results := [.lit (.bool true)], args := [d1, d2, d3] }
  | _ => none }
def streamClockRow : OpenClaim := { program := "ytpdghiplnlhnfaa", sum := "81d879b5904b9ef9ff1d9d5633b0ff9a51cb092fba863e613157ce6fc8a33311", func := "lumper/lumperlaw12.StreamClock", spec := "streamClock", unfollowed := true, recurses := true, apart := false }
def StreamClockSaid : Prop := streamClockRow.holds Try.pinned (OpenSpec.ofChange streamClockSpec)

/-- ITS FALSE NEIGHBOUR: 'it returns false'. Refute it at one input. -/
def streamClockWrong : ChangeSpec := { name := "streamClock", fn := fun _ => fun
  | [d1, d2, d3] => { results := [.lit (.bool false)], args := [d1, d2, d3] }
  | _ => none }
def StreamClockWrongFalsely : Prop := streamClockRow.holds Try.pinned (OpenSpec.ofChange streamClockWrong)

/-- 'lumperlaw12.StreamRounds': WHATEVER THE INPUT: true; the input reads as it did. -/
def streamRoundsSpec : ChangeSpec := { name := "streamRounds", fn := fun _ => fun
  | [d1, d2, d3] => { results := [.lit (.bool true)], args := [d1, d2, d3] }
  | _ => none }
def streamRoundsRow : OpenClaim := { program := "ytpdghiplnlhnfaa", sum := "81d879b5904b9ef9ff1d9d5633b0ff9a51cb092fba863e613157ce6fc8a33311", func := "lumper/lumperlaw12.StreamRounds", spec := "streamRounds", unfollowed := true, recurses := true, apart := false }
def StreamRoundsSaid : Prop := streamRoundsRow.holds Try.pinned (OpenSpec.ofChange streamRoundsSpec)

/-- ITS FALSE NEIGHBOUR: 'it returns false'. Refute it at one input. -/
def streamRoundsWrong : ChangeSpec := { name := "streamRounds", fn := fun _ => fun
  | [d1, d2, d3] => { results := [.lit (.bool false)], args := [d1, d2, d3] }
  | _ => none }
def StreamRoundsWrongFalsely : Prop := streamRoundsRow.holds Try.pinned (OpenSpec.ofChange streamRoundsWrong)

/- THE SECOND FORM. 'bulk': how many values and letters a reading holds, each counted each time it is reached (what is shared counts as often as it is met; a slice's spare places count too). A statement '..UptoSaid' is the law's where the arguments, and the package variables that the reading takes, are together of bulk at most 1048576: NARROWER than '..Said'. Prove '..Said' where nothing that the law and all that it calls make is longer than what came in: it says more and counts as full. Else prove '..UptoSaid'. A law counts once. -/
mutual
def uptoBulk {H : Type} : DataW H → Nat
  | .lit (.string bytes) => bytes.length + 1
  | .lit _ => 1
  | .nil => 1
  | .ptr d => uptoBulk d + 1
  | .slice elems spare => uptoBulkAll elems + uptoBulkAll spare + 1
  | .agg parts => uptoBulkAll parts + 1
  | .iface _ d => uptoBulk d + 1
  | .map entries => uptoBulkEntries entries + 1
  | .held _ => 1
def uptoBulkAll {H : Type} : List (DataW H) → Nat
  | [] => 0
  | d :: r => uptoBulk d + uptoBulkAll r
def uptoBulkEntries {H : Type} : List (Lit × DataW H) → Nat
  | [] => 0
  | x :: r => uptoBulkEntry x + uptoBulkEntries r
def uptoBulkEntry {H : Type} : Lit × DataW H → Nat
  | (.string bytes, d) => bytes.length + uptoBulk d + 1
  | (_, d) => uptoBulk d + 1
 end
def uptoSmall : (H : Type) → List (DataW H) → Bool := fun _ ds => decide (uptoBulkAll ds ≤ 1048576)
def OpenSpec.upto (s : _root_.Go.ChangeSpec) : _root_.Go.OpenSpec := { _root_.Go.OpenSpec.ofChange s with cond := some uptoSmall }

/-- 'lumperlaw18.PerfAlone', WHERE WHAT IT READS IS OF BULK AT MOST 1048576: true; the input reads as it did. -/
def perfAloneUptoRow : OpenClaim := { program := "ytpdghiplnlhnfaa", sum := "81d879b5904b9ef9ff1d9d5633b0ff9a51cb092fba863e613157ce6fc8a33311", func := "lumper/lumperlaw18.PerfAlone", spec := "perfAlone", unfollowed := true, recurses := true, apart := false, narrowed := true }
def PerfAloneUptoSaid : Prop := perfAloneUptoRow.holds Try.pinned (OpenSpec.upto perfAloneSpec)

/-- 'lumperlaw18.PerfFaults', WHERE WHAT IT READS IS OF BULK AT MOST 1048576: true; the input reads as it did. -/
def perfFaultsUptoRow : OpenClaim := { program := "ytpdghiplnlhnfaa", sum := "81d879b5904b9ef9ff1d9d5633b0ff9a51cb092fba863e613157ce6fc8a33311", func := "lumper/lumperlaw18.PerfFaults", spec := "perfFaults", unfollowed := true, recurses := true, apart := false, narrowed := true }
def PerfFaultsUptoSaid : Prop := perfFaultsUptoRow.holds Try.pinned (OpenSpec.upto perfFaultsSpec)

/-- 'lumperlaw18.PerfGoals', WHERE WHAT IT READS IS OF BULK AT MOST 1048576: true; the input reads as it did. -/
def perfGoalsUptoRow : OpenClaim := { program := "ytpdghiplnlhnfaa", sum := "81d879b5904b9ef9ff1d9d5633b0ff9a51cb092fba863e613157ce6fc8a33311", func := "lumper/lumperlaw18.PerfGoals", spec := "perfGoals", unfollowed := true, recurses := true, apart := false, narrowed := true }
def PerfGoalsUptoSaid : Prop := perfGoalsUptoRow.holds Try.pinned (OpenSpec.upto perfGoalsSpec)

/-- 'lumperlaw18.PerfTiers', WHERE WHAT IT READS IS OF BULK AT MOST 1048576: true; the input reads as it did. -/
def perfTiersUptoRow : OpenClaim := { program := "ytpdghiplnlhnfaa", sum := "81d879b5904b9ef9ff1d9d5633b0ff9a51cb092fba863e613157ce6fc8a33311", func := "lumper/lumperlaw18.PerfTiers", spec := "perfTiers", unfollowed := true, recurses := true, apart := false, narrowed := true }
def PerfTiersUptoSaid : Prop := perfTiersUptoRow.holds Try.pinned (OpenSpec.upto perfTiersSpec)

/-- 'lumperlaw12.StreamRises', WHERE WHAT IT READS IS OF BULK AT MOST 1048576: true; the input reads as it did. -/
def streamRisesUptoRow : OpenClaim := { program := "ytpdghiplnlhnfaa", sum := "81d879b5904b9ef9ff1d9d5633b0ff9a51cb092fba863e613157ce6fc8a33311", func := "lumper/lumperlaw12.StreamRises", spec := "streamRises", unfollowed := true, recurses := true, apart := false, narrowed := true }
def StreamRisesUptoSaid : Prop := streamRisesUptoRow.holds Try.pinned (OpenSpec.upto streamRisesSpec)

/-- 'lumperlaw12.StreamAlone', WHERE WHAT IT READS IS OF BULK AT MOST 1048576: true; the input reads as it did. -/
def streamAloneUptoRow : OpenClaim := { program := "ytpdghiplnlhnfaa", sum := "81d879b5904b9ef9ff1d9d5633b0ff9a51cb092fba863e613157ce6fc8a33311", func := "lumper/lumperlaw12.StreamAlone", spec := "streamAlone", unfollowed := true, recurses := true, apart := false, narrowed := true }
def StreamAloneUptoSaid : Prop := streamAloneUptoRow.holds Try.pinned (OpenSpec.upto streamAloneSpec)

/-- 'lumperlaw12.StreamFlags', WHERE WHAT IT READS IS OF BULK AT MOST 1048576: true; the input reads as it did. -/
def streamFlagsUptoRow : OpenClaim := { program := "ytpdghiplnlhnfaa", sum := "81d879b5904b9ef9ff1d9d5633b0ff9a51cb092fba863e613157ce6fc8a33311", func := "lumper/lumperlaw12.StreamFlags", spec := "streamFlags", unfollowed := true, recurses := true, apart := false, narrowed := true }
def StreamFlagsUptoSaid : Prop := streamFlagsUptoRow.holds Try.pinned (OpenSpec.upto streamFlagsSpec)

/-- 'lumperlaw12.StreamClock', WHERE WHAT IT READS IS OF BULK AT MOST 1048576: true; the input reads as it did. -/
def streamClockUptoRow : OpenClaim := { program := "ytpdghiplnlhnfaa", sum := "81d879b5904b9ef9ff1d9d5633b0ff9a51cb092fba863e613157ce6fc8a33311", func := "lumper/lumperlaw12.StreamClock", spec := "streamClock", unfollowed := true, recurses := true, apart := false, narrowed := true }
def StreamClockUptoSaid : Prop := streamClockUptoRow.holds Try.pinned (OpenSpec.upto streamClockSpec)

/-- 'lumperlaw12.StreamRounds', WHERE WHAT IT READS IS OF BULK AT MOST 1048576: true; the input reads as it did. -/
def streamRoundsUptoRow : OpenClaim := { program := "ytpdghiplnlhnfaa", sum := "81d879b5904b9ef9ff1d9d5633b0ff9a51cb092fba863e613157ce6fc8a33311", func := "lumper/lumperlaw12.StreamRounds", spec := "streamRounds", unfollowed := true, recurses := true, apart := false, narrowed := true }
def StreamRoundsUptoSaid : Prop := streamRoundsUptoRow.holds Try.pinned (OpenSpec.upto streamRoundsSpec)

end Rows
end Go.Proofs.Ytpdghiplnlhnfaa
