/-
  No cell of these rows narrows 'for every input' (looked for: loops, veiled, ifaces, maps, wideKeys, modest, calm, conditions, laid).
  DERIVED. THE GIVEN ROWS OF THIS SEAT. 2 by the template 'for every input the law returns true; each argument reads behind the call as it read before'; 0 by the template 'total and deterministic' (their statements: YtjeehgkolepogaaGreatTotals.lean).
  GIVEN WITH THE SEED: the statements are not yours to turn. If you find one false, say at which input.
  Laid BY PROGRAM, IN A SANDBOX (cutbox-rows.mjs): the forced cells as the released guide's own fill.sh prints them over the translation adf06c2c0bd35592… (all of the seat's roots in one cut). By AI agents, Wed Nov 11 2026. No macro, syntax, notation, axiom, sorry.
-/
import Derived.Test.YtjeehgkolepogaaGreatChecked
import GoSem.Claim
import GoSem.ClaimJoined
import GoSem.ClaimMapViews
import Derived.JoinedTies
import Derived.KernelRfl
namespace Go.Proofs.YtjeehgkolepogaaGreat
/- THE CELL 'sum', in the pinned program and in every row, IS THE sha256 OF THE DUMP (.gsa) THAT YtjeehgkolepogaaGreatProg.lean LOADS. Nothing in Lean hashes anything: it is a label: what it is worth is what the hold of that sum in a sandbox is worth. -/
noncomputable def Tryz.pinned : Pinned := { name := "ytjeehgkolepogaagreat", sum := "adf06c2c0bd355926b0c4218a0c098771a9b76fbd608f673b4d7d83bf6f6ad05", checked := Tryz.checked }
namespace Rows
def none {H : Type} : Left H := { results := [], args := [] }

/-- 'lumperlaw18.PerfTells': WHATEVER THE INPUT: true; the input reads as it did. -/
def perfTellsSpec : ChangeSpec := { name := "perfTells", fn := fun _ => fun
  | [d1, d2, d3, d4, d5] => { results := [.lit (.bool true)], args := [d1, d2, d3, d4, d5] }
  | _ => none }
def perfTellsRow : OpenClaim := { program := "ytjeehgkolepogaagreat", sum := "adf06c2c0bd355926b0c4218a0c098771a9b76fbd608f673b4d7d83bf6f6ad05", func := "lumper/lumperlaw18.PerfTells", spec := "perfTells", unfollowed := true, recurses := true, apart := false }
def PerfTellsSaid : Prop := perfTellsRow.holds Tryz.pinned (OpenSpec.ofChange perfTellsSpec)

/-- ITS FALSE NEIGHBOUR: 'it returns false'. Refute it at one input. -/
def perfTellsWrong : ChangeSpec := { name := "perfTells", fn := fun _ => fun
  | [d1, d2, d3, d4, d5] => { results := [.lit (.bool false)], args := [d1, d2, d3, d4, d5] }
  | _ => none }
def PerfTellsWrongFalsely : Prop := perfTellsRow.holds Tryz.pinned (OpenSpec.ofChange perfTellsWrong)

/-- 'lumperlaw12.StreamTells': WHATEVER THE INPUT: true; the input reads as it did. -/
def streamTellsSpec : ChangeSpec := { name := "streamTells", fn := fun _ => fun
  | [d1, d2, d3, d4, d5] => { results := [.lit (.bool true)], args := [d1, d2, d3, d4, d5] }
  | _ => none }
def streamTellsRow : OpenClaim := { program := "ytjeehgkolepogaagreat", sum := "adf06c2c0bd355926b0c4218a0c098771a9b76fbd608f673b4d7d83bf6f6ad05", func := "lumper/lumperlaw12.StreamTells", spec := "streamTells", unfollowed := true, recurses := true, apart := false }
def StreamTellsSaid : Prop := streamTellsRow.holds Tryz.pinned (OpenSpec.ofChange streamTellsSpec)

/-- ITS FALSE NEIGHBOUR: 'it returns false'. Refute it at one input. -/
def streamTellsWrong : ChangeSpec := { name := "streamTells", fn := fun _ => fun
  | [d1, d2, d3, d4, d5] => { results := [.lit (.bool false)], args := [d1, d2, d3, d4, d5] }
  | _ => none }
def StreamTellsWrongFalsely : Prop := streamTellsRow.holds Tryz.pinned (OpenSpec.ofChange streamTellsWrong)

/- THE SECOND FORM. 'bulk': how many values and letters a reading holds, each counted each time it is reached (what is shared counts as often as it is met; a slice's spare places count too). A statement '..UptoSaid' is the law's where the arguments, and the package variables that the reading takes, are together of bulk at most 1048576: NARROWER than '..Said'. Prove '..Said' where nothing that the law and all that it calls make is longer than what came in: it says more and counts as full. Else prove '..UptoSaid'. A law counts once. -/
mutual
def uptoBulk {H : Type} : DataW H → Nat
  | .lit (.string bytes) => bytes.length + 1
  | .lit _ => 1
  | .nil => 1
  | .ptr d => uptoBulk d + 1
  | .slice elems spare => uptoBulkAll elems + uptoBulkAll spare + 1
  | .agg parts => uptoBulkAll parts + 1
  | .iface _ d => uptoBulk d + 1
  | .map entries => uptoBulkEntries entries + 1
  | .held _ => 1
def uptoBulkAll {H : Type} : List (DataW H) → Nat
  | [] => 0
  | d :: r => uptoBulk d + uptoBulkAll r
def uptoBulkEntries {H : Type} : List (Lit × DataW H) → Nat
  | [] => 0
  | x :: r => uptoBulkEntry x + uptoBulkEntries r
def uptoBulkEntry {H : Type} : Lit × DataW H → Nat
  | (.string bytes, d) => bytes.length + uptoBulk d + 1
  | (_, d) => uptoBulk d + 1
 end
def uptoSmall : (H : Type) → List (DataW H) → Bool := fun _ ds => decide (uptoBulkAll ds ≤ 1048576)
def OpenSpec.upto (s : _root_.Go.ChangeSpec) : _root_.Go.OpenSpec := { _root_.Go.OpenSpec.ofChange s with cond := some uptoSmall }

/-- 'lumperlaw18.PerfTells', WHERE WHAT IT READS IS OF BULK AT MOST 1048576: true; the input reads as it did. -/
def perfTellsUptoRow : OpenClaim := { program := "ytjeehgkolepogaagreat", sum := "adf06c2c0bd355926b0c4218a0c098771a9b76fbd608f673b4d7d83bf6f6ad05", func := "lumper/lumperlaw18.PerfTells", spec := "perfTells", unfollowed := true, recurses := true, apart := false, narrowed := true }
def PerfTellsUptoSaid : Prop := perfTellsUptoRow.holds Tryz.pinned (OpenSpec.upto perfTellsSpec)

/-- 'lumperlaw12.StreamTells', WHERE WHAT IT READS IS OF BULK AT MOST 1048576: true; the input reads as it did. -/
def streamTellsUptoRow : OpenClaim := { program := "ytjeehgkolepogaagreat", sum := "adf06c2c0bd355926b0c4218a0c098771a9b76fbd608f673b4d7d83bf6f6ad05", func := "lumper/lumperlaw12.StreamTells", spec := "streamTells", unfollowed := true, recurses := true, apart := false, narrowed := true }
def StreamTellsUptoSaid : Prop := streamTellsUptoRow.holds Tryz.pinned (OpenSpec.upto streamTellsSpec)

end Rows
end Go.Proofs.YtjeehgkolepogaaGreat
