/-
  No cell of these rows narrows 'for every input' (looked for: loops, veiled, ifaces, maps, wideKeys, modest, calm, conditions, laid).
  DERIVED. THE GIVEN ROWS OF THIS SEAT. 15 by the template 'for every input the law returns true; each argument reads behind the call as it read before'; 0 by the template 'total and deterministic' (their statements: YtpalnlcjhpkkpaaTotals.lean).
  GIVEN WITH THE SEED: the statements are not yours to turn. If you find one false, say at which input.
  Laid BY PROGRAM, IN A SANDBOX (cutbox-rows.mjs): the forced cells as the released guide's own fill.sh prints them over the translation 25429cbcb288f02c… (all of the seat's roots in one cut). By AI agents, Wed Nov 11 2026. No macro, syntax, notation, axiom, sorry.
-/
import Derived.Test.YtpalnlcjhpkkpaaChecked
import GoSem.Claim
import GoSem.ClaimJoined
import GoSem.ClaimMapViews
import Derived.JoinedTies
import Derived.KernelRfl
namespace Go.Proofs.Ytpalnlcjhpkkpaa
/- THE CELL 'sum', in the pinned program and in every row, IS THE sha256 OF THE DUMP (.gsa) THAT YtpalnlcjhpkkpaaProg.lean LOADS. Nothing in Lean hashes anything: it is a label: what it is worth is what the hold of that sum in a sandbox is worth. -/
noncomputable def Try.pinned : Pinned := { name := "ytpalnlcjhpkkpaa", sum := "25429cbcb288f02c8207423b91c3e4f41c5433b0fb9e937b8a403d2ed39f8a4b", checked := Try.checked }
namespace Rows
def none {H : Type} : Left H := { results := [], args := [] }

/-- 'lumperlaw04.CrcTells': WHATEVER THE INPUT: true; the input reads as it did. -/
def crcTellsSpec : ChangeSpec := { name := "crcTells", fn := fun _ => fun
  | [d1, d2] => { results := [.lit (.bool true)], args := [d1, d2] }
  | _ => none }
def crcTellsRow : OpenClaim := { program := "ytpalnlcjhpkkpaa", sum := "25429cbcb288f02c8207423b91c3e4f41c5433b0fb9e937b8a403d2ed39f8a4b", func := "lumper/lumperlaw04.CrcTells", spec := "crcTells", apart := false }
def CrcTellsSaid : Prop := crcTellsRow.holds Try.pinned (OpenSpec.ofChange crcTellsSpec)

/-- ITS FALSE NEIGHBOUR: 'it returns false'. Refute it at one input. -/
def crcTellsWrong : ChangeSpec := { name := "crcTells", fn := fun _ => fun
  | [d1, d2] => { results := [.lit (.bool false)], args := [d1, d2] }
  | _ => none }
def CrcTellsWrongFalsely : Prop := crcTellsRow.holds Try.pinned (OpenSpec.ofChange crcTellsWrong)

/-- 'lumperlaw04.CrcParts': WHATEVER THE INPUT: true; the input reads as it did. -/
def crcPartsSpec : ChangeSpec := { name := "crcParts", fn := fun _ => fun
  | [d1, d2, d3] => { results := [.lit (.bool true)], args := [d1, d2, d3] }
  | _ => none }
def crcPartsRow : OpenClaim := { program := "ytpalnlcjhpkkpaa", sum := "25429cbcb288f02c8207423b91c3e4f41c5433b0fb9e937b8a403d2ed39f8a4b", func := "lumper/lumperlaw04.CrcParts", spec := "crcParts", apart := false }
def CrcPartsSaid : Prop := crcPartsRow.holds Try.pinned (OpenSpec.ofChange crcPartsSpec)

/-- ITS FALSE NEIGHBOUR: 'it returns false'. Refute it at one input. -/
def crcPartsWrong : ChangeSpec := { name := "crcParts", fn := fun _ => fun
  | [d1, d2, d3] => { results := [.lit (.bool false)], args := [d1, d2, d3] }
  | _ => none }
def CrcPartsWrongFalsely : Prop := crcPartsRow.holds Try.pinned (OpenSpec.ofChange crcPartsWrong)

/-- 'lumperlaw04.CrcSame': WHATEVER THE INPUT: true; the input reads as it did. -/
def crcSameSpec : ChangeSpec := { name := "crcSame", fn := fun _ => fun
  | [d] => { results := [.lit (.bool true)], args := [d] }
  | _ => none }
def crcSameRow : OpenClaim := { program := "ytpalnlcjhpkkpaa", sum := "25429cbcb288f02c8207423b91c3e4f41c5433b0fb9e937b8a403d2ed39f8a4b", func := "lumper/lumperlaw04.CrcSame", spec := "crcSame", apart := false }
def CrcSameSaid : Prop := crcSameRow.holds Try.pinned (OpenSpec.ofChange crcSameSpec)

/-- ITS FALSE NEIGHBOUR: 'it returns false'. Refute it at one input. -/
def crcSameWrong : ChangeSpec := { name := "crcSame", fn := fun _ => fun
  | [d] => { results := [.lit (.bool false)], args := [d] }
  | _ => none }
def CrcSameWrongFalsely : Prop := crcSameRow.holds Try.pinned (OpenSpec.ofChange crcSameWrong)

/-- 'lumperlaw04.CrcBurst': WHATEVER THE INPUT: true; the input reads as it did. -/
def crcBurstSpec : ChangeSpec := { name := "crcBurst", fn := fun _ => fun
  | [d1, d2, d3] => { results := [.lit (.bool true)], args := [d1, d2, d3] }
  | _ => none }
def crcBurstRow : OpenClaim := { program := "ytpalnlcjhpkkpaa", sum := "25429cbcb288f02c8207423b91c3e4f41c5433b0fb9e937b8a403d2ed39f8a4b", func := "lumper/lumperlaw04.CrcBurst", spec := "crcBurst", apart := false }
def CrcBurstSaid : Prop := crcBurstRow.holds Try.pinned (OpenSpec.ofChange crcBurstSpec)

/-- ITS FALSE NEIGHBOUR: 'it returns false'. Refute it at one input. -/
def crcBurstWrong : ChangeSpec := { name := "crcBurst", fn := fun _ => fun
  | [d1, d2, d3] => { results := [.lit (.bool false)], args := [d1, d2, d3] }
  | _ => none }
def CrcBurstWrongFalsely : Prop := crcBurstRow.holds Try.pinned (OpenSpec.ofChange crcBurstWrong)

/-- 'lumperlaw04.CrcThree': WHATEVER THE INPUT: true; the input reads as it did. -/
def crcThreeSpec : ChangeSpec := { name := "crcThree", fn := fun _ => fun
  | [d1, d2, d3] => { results := [.lit (.bool true)], args := [d1, d2, d3] }
  | _ => none }
def crcThreeRow : OpenClaim := { program := "ytpalnlcjhpkkpaa", sum := "25429cbcb288f02c8207423b91c3e4f41c5433b0fb9e937b8a403d2ed39f8a4b", func := "lumper/lumperlaw04.CrcThree", spec := "crcThree", apart := false }
def CrcThreeSaid : Prop := crcThreeRow.holds Try.pinned (OpenSpec.ofChange crcThreeSpec)

/-- ITS FALSE NEIGHBOUR: 'it returns false'. Refute it at one input. -/
def crcThreeWrong : ChangeSpec := { name := "crcThree", fn := fun _ => fun
  | [d1, d2, d3] => { results := [.lit (.bool false)], args := [d1, d2, d3] }
  | _ => none }
def CrcThreeWrongFalsely : Prop := crcThreeRow.holds Try.pinned (OpenSpec.ofChange crcThreeWrong)

/-- 'lumperlaw05.PackTells': WHATEVER THE INPUT: true; the input reads as it did. -/
def packTellsSpec : ChangeSpec := { name := "packTells", fn := fun _ => fun
  | [d1, d2, d3] => { results := [.lit (.bool true)], args := [d1, d2, d3] }
  | _ => none }
def packTellsRow : OpenClaim := { program := "ytpalnlcjhpkkpaa", sum := "25429cbcb288f02c8207423b91c3e4f41c5433b0fb9e937b8a403d2ed39f8a4b", func := "lumper/lumperlaw05.PackTells", spec := "packTells", recurses := true, apart := false }
def PackTellsSaid : Prop := packTellsRow.holds Try.pinned (OpenSpec.ofChange packTellsSpec)

/-- ITS FALSE NEIGHBOUR: 'it returns false'. Refute it at one input. -/
def packTellsWrong : ChangeSpec := { name := "packTells", fn := fun _ => fun
  | [d1, d2, d3] => { results := [.lit (.bool false)], args := [d1, d2, d3] }
  | _ => none }
def PackTellsWrongFalsely : Prop := packTellsRow.holds Try.pinned (OpenSpec.ofChange packTellsWrong)

/-- 'lumperlaw05.PackBack': WHATEVER THE INPUT: true; the input reads as it did. -/
def packBackSpec : ChangeSpec := { name := "packBack", fn := fun _ => fun
  | [d1, d2, d3] => { results := [.lit (.bool true)], args := [d1, d2, d3] }
  | _ => none }
def packBackRow : OpenClaim := { program := "ytpalnlcjhpkkpaa", sum := "25429cbcb288f02c8207423b91c3e4f41c5433b0fb9e937b8a403d2ed39f8a4b", func := "lumper/lumperlaw05.PackBack", spec := "packBack", apart := false }
def PackBackSaid : Prop := packBackRow.holds Try.pinned (OpenSpec.ofChange packBackSpec)

/-- ITS FALSE NEIGHBOUR: 'it returns false'. Refute it at one input. -/
def packBackWrong : ChangeSpec := { name := "packBack", fn := fun _ => fun
  | [d1, d2, d3] => { results := [.lit (.bool false)], args := [d1, d2, d3] }
  | _ => none }
def PackBackWrongFalsely : Prop := packBackRow.holds Try.pinned (OpenSpec.ofChange packBackWrong)

/-- 'lumperlaw05.PackOwn': WHATEVER THE INPUT: true; the input reads as it did. -/
def packOwnSpec : ChangeSpec := { name := "packOwn", fn := fun _ => fun
  | [d] => { results := [.lit (.bool true)], args := [d] }
  | _ => none }
def packOwnRow : OpenClaim := { program := "ytpalnlcjhpkkpaa", sum := "25429cbcb288f02c8207423b91c3e4f41c5433b0fb9e937b8a403d2ed39f8a4b", func := "lumper/lumperlaw05.PackOwn", spec := "packOwn", apart := false }
def PackOwnSaid : Prop := packOwnRow.holds Try.pinned (OpenSpec.ofChange packOwnSpec)

/-- ITS FALSE NEIGHBOUR: 'it returns false'. Refute it at one input. -/
def packOwnWrong : ChangeSpec := { name := "packOwn", fn := fun _ => fun
  | [d] => { results := [.lit (.bool false)], args := [d] }
  | _ => none }
def PackOwnWrongFalsely : Prop := packOwnRow.holds Try.pinned (OpenSpec.ofChange packOwnWrong)

/-- 'lumperlaw05.PackCuts': WHATEVER THE INPUT: true; the input reads as it did. -/
def packCutsSpec : ChangeSpec := { name := "packCuts", fn := fun _ => fun
  | [d1, d2, d3] => { results := [.lit (.bool true)], args := [d1, d2, d3] }
  | _ => none }
def packCutsRow : OpenClaim := { program := "ytpalnlcjhpkkpaa", sum := "25429cbcb288f02c8207423b91c3e4f41c5433b0fb9e937b8a403d2ed39f8a4b", func := "lumper/lumperlaw05.PackCuts", spec := "packCuts", apart := false }
def PackCutsSaid : Prop := packCutsRow.holds Try.pinned (OpenSpec.ofChange packCutsSpec)

/-- ITS FALSE NEIGHBOUR: 'it returns false'. Refute it at one input. -/
def packCutsWrong : ChangeSpec := { name := "packCuts", fn := fun _ => fun
  | [d1, d2, d3] => { results := [.lit (.bool false)], args := [d1, d2, d3] }
  | _ => none }
def PackCutsWrongFalsely : Prop := packCutsRow.holds Try.pinned (OpenSpec.ofChange packCutsWrong)

/-- 'lumperlaw05.PackOrder': WHATEVER THE INPUT: true; the input reads as it did. -/
def packOrderSpec : ChangeSpec := { name := "packOrder", fn := fun _ => fun
  | [d1, d2] => { results := [.lit (.bool true)], args := [d1, d2] }
  | _ => none }
def packOrderRow : OpenClaim := { program := "ytpalnlcjhpkkpaa", sum := "25429cbcb288f02c8207423b91c3e4f41c5433b0fb9e937b8a403d2ed39f8a4b", func := "lumper/lumperlaw05.PackOrder", spec := "packOrder", apart := false }
def PackOrderSaid : Prop := packOrderRow.holds Try.pinned (OpenSpec.ofChange packOrderSpec)

/-- ITS FALSE NEIGHBOUR: 'it returns false'. Refute it at one input. -/
def packOrderWrong : ChangeSpec := { name := "packOrder", fn := fun _ => fun
  | [d1, d2] => { results := [.lit (.bool false)], args := [d1, d2] }
  | _ => none }
def PackOrderWrongFalsely : Prop := packOrderRow.holds Try.pinned (OpenSpec.ofChange packOrderWrong)

/-- 'lumperlaw06.FrameTells': WHATEVER THE INPUT: true; the input reads as it did. -/
def frameTellsSpec : ChangeSpec := { name := "frameTells", fn := fun _ => fun
  | [d1, d2] => { results := [.lit (.bool true)], args := [d1, d2] }
  | _ => none }
def frameTellsRow : OpenClaim := { program := "ytpalnlcjhpkkpaa", sum := "25429cbcb288f02c8207423b91c3e4f41c5433b0fb9e937b8a403d2ed39f8a4b", func := "lumper/lumperlaw06.FrameTells", spec := "frameTells", unfollowed := true, recurses := true, apart := false }
def FrameTellsSaid : Prop := frameTellsRow.holds Try.pinned (OpenSpec.ofChange frameTellsSpec)

/-- ITS FALSE NEIGHBOUR: 'it returns false'. Refute it at one input. -/
def frameTellsWrong : ChangeSpec := { name := "frameTells", fn := fun _ => fun
  | [d1, d2] => { results := [.lit (.bool false)], args := [d1, d2] }
  | _ => none }
def FrameTellsWrongFalsely : Prop := frameTellsRow.holds Try.pinned (OpenSpec.ofChange frameTellsWrong)

/-- 'lumperlaw06.FrameBack': WHATEVER THE INPUT: true; the input reads as it did. -/
def frameBackSpec : ChangeSpec := { name := "frameBack", fn := fun _ => fun
  | [d1, d2] => { results := [.lit (.bool true)], args := [d1, d2] }
  | _ => none }
def frameBackRow : OpenClaim := { program := "ytpalnlcjhpkkpaa", sum := "25429cbcb288f02c8207423b91c3e4f41c5433b0fb9e937b8a403d2ed39f8a4b", func := "lumper/lumperlaw06.FrameBack", spec := "frameBack", unfollowed := true, recurses := true, apart := false }
def FrameBackSaid : Prop := frameBackRow.holds Try.pinned (OpenSpec.ofChange frameBackSpec)

/-- ITS FALSE NEIGHBOUR: 'it returns false'. Refute it at one input. -/
def frameBackWrong : ChangeSpec := { name := "frameBack", fn := fun _ => fun
  | [d1, d2] => { results := [.lit (.bool false)], args := [d1, d2] }
  | _ => none }
def FrameBackWrongFalsely : Prop := frameBackRow.holds Try.pinned (OpenSpec.ofChange frameBackWrong)

/-- 'lumperlaw06.FrameCuts': WHATEVER THE INPUT: true; the input reads as it did. -/
def frameCutsSpec : ChangeSpec := { name := "frameCuts", fn := fun _ => fun
  | [d1, d2] => { results := [.lit (.bool true)], args := [d1, d2] }
  | _ => none }
def frameCutsRow : OpenClaim := { program := "ytpalnlcjhpkkpaa", sum := "25429cbcb288f02c8207423b91c3e4f41c5433b0fb9e937b8a403d2ed39f8a4b", func := "lumper/lumperlaw06.FrameCuts", spec := "frameCuts", unfollowed := true, recurses := true, apart := false }
def FrameCutsSaid : Prop := frameCutsRow.holds Try.pinned (OpenSpec.ofChange frameCutsSpec)

/-- ITS FALSE NEIGHBOUR: 'it returns false'. Refute it at one input. -/
def frameCutsWrong : ChangeSpec := { name := "frameCuts", fn := fun _ => fun
  | [d1, d2] => { results := [.lit (.bool false)], args := [d1, d2] }
  | _ => none }
def FrameCutsWrongFalsely : Prop := frameCutsRow.holds Try.pinned (OpenSpec.ofChange frameCutsWrong)

/-- 'lumperlaw06.FrameBurst': WHATEVER THE INPUT: true; the input reads as it did. -/
def frameBurstSpec : ChangeSpec := { name := "frameBurst", fn := fun _ => fun
  | [d1, d2, d3] => { results := [.lit (.bool true)], args := [d1, d2, d3] }
  | _ => none }
def frameBurstRow : OpenClaim := { program := "ytpalnlcjhpkkpaa", sum := "25429cbcb288f02c8207423b91c3e4f41c5433b0fb9e937b8a403d2ed39f8a4b", func := "lumper/lumperlaw06.FrameBurst", spec := "frameBurst", unfollowed := true, recurses := true, apart := false }
def FrameBurstSaid : Prop := frameBurstRow.holds Try.pinned (OpenSpec.ofChange frameBurstSpec)

/-- ITS FALSE NEIGHBOUR: 'it returns false'. Refute it at one input. -/
def frameBurstWrong : ChangeSpec := { name := "frameBurst", fn := fun _ => fun
  | [d1, d2, d3] => { results := [.lit (.bool false)], args := [d1, d2, d3] }
  | _ => none }
def FrameBurstWrongFalsely : Prop := frameBurstRow.holds Try.pinned (OpenSpec.ofChange frameBurstWrong)

/-- 'lumperlaw06.FrameOwn': WHATEVER THE INPUT: true; the input reads as it did. -/
def frameOwnSpec : ChangeSpec := { name := "frameOwn", fn := fun _ => fun
  | [d] => { results := [.lit (.bool true)], args := [d] }
  | _ => none }
def frameOwnRow : OpenClaim := { program := "ytpalnlcjhpkkpaa", sum := "25429cbcb288f02c8207423b91c3e4f41c5433b0fb9e937b8a403d2ed39f8a4b", func := "lumper/lumperlaw06.FrameOwn", spec := "frameOwn", unfollowed := true, recurses := true, apart := false }
def FrameOwnSaid : Prop := frameOwnRow.holds Try.pinned (OpenSpec.ofChange frameOwnSpec)

/-- ITS FALSE NEIGHBOUR: 'it returns false'. Refute it at one input. -/
def frameOwnWrong : ChangeSpec := { name := "frameOwn", fn := fun _ => fun
  | [d] => { results := [.lit (.bool false)], args := [d] }
  | _ => none }
def FrameOwnWrongFalsely : Prop := frameOwnRow.holds Try.pinned (OpenSpec.ofChange frameOwnWrong)

/- THE SECOND FORM. 'bulk': how many values and letters a reading holds, each counted each time it is reached (what is shared counts as often as it is met; a slice's spare places count too). A statement '..UptoSaid' is the law's where the arguments, and the package variables that the reading takes, are together of bulk at most 1048576: NARROWER than '..Said'. Prove '..Said' where nothing that the law and all that it calls make is longer than what came in: it says more and counts as full. Else prove '..UptoSaid'. A law counts once. -/
mutual
def uptoBulk {H : Type} : DataW H → Nat
  | .lit (.string bytes) => bytes.length + 1
  | .lit _ => 1
  | .nil => 1
  | .ptr d => uptoBulk d + 1
  | .slice elems spare => uptoBulkAll elems + uptoBulkAll spare + 1
  | .agg parts => uptoBulkAll parts + 1
  | .iface _ d => uptoBulk d + 1
  | .map entries => uptoBulkEntries entries + 1
  | .held _ => 1
def uptoBulkAll {H : Type} : List (DataW H) → Nat
  | [] => 0
  | d :: r => uptoBulk d + uptoBulkAll r
def uptoBulkEntries {H : Type} : List (Lit × DataW H) → Nat
  | [] => 0
  | x :: r => uptoBulkEntry x + uptoBulkEntries r
def uptoBulkEntry {H : Type} : Lit × DataW H → Nat
  | (.string bytes, d) => bytes.length + uptoBulk d + 1
  | (_, d) => uptoBulk d + 1
 end
def uptoSmall : (H : Type) → List (DataW H) → Bool := fun _ ds => decide (uptoBulkAll ds ≤ 1048576)
def OpenSpec.upto (s : _root_.Go.ChangeSpec) : _root_.Go.OpenSpec := { _root_.Go.OpenSpec.ofChange s with cond := some uptoSmall }

/-- 'lumperlaw04.CrcTells', WHERE WHAT IT READS IS OF BULK AT MOST 1048576: true; the input reads as it did. -/
def crcTellsUptoRow : OpenClaim := { program := "ytpalnlcjhpkkpaa", sum := "25429cbcb288f02c8207423b91c3e4f41c5433b0fb9e937b8a403d2ed39f8a4b", func := "lumper/lumperlaw04.CrcTells", spec := "crcTells", apart := false, narrowed := true }
def CrcTellsUptoSaid : Prop := crcTellsUptoRow.holds Try.pinned (OpenSpec.upto crcTellsSpec)

/-- 'lumperlaw04.CrcParts', WHERE WHAT IT READS IS OF BULK AT MOST 1048576: true; the input reads as it did. -/
def crcPartsUptoRow : OpenClaim := { program := "ytpalnlcjhpkkpaa", sum := "25429cbcb288f02c8207423b91c3e4f41c5433b0fb9e937b8a403d2ed39f8a4b", func := "lumper/lumperlaw04.CrcParts", spec := "crcParts", apart := false, narrowed := true }
def CrcPartsUptoSaid : Prop := crcPartsUptoRow.holds Try.pinned (OpenSpec.upto crcPartsSpec)

/-- 'lumperlaw04.CrcSame', WHERE WHAT IT READS IS OF BULK AT MOST 1048576: true; the input reads as it did. -/
def crcSameUptoRow : OpenClaim := { program := "ytpalnlcjhpkkpaa", sum := "25429cbcb288f02c8207423b91c3e4f41c5433b0fb9e937b8a403d2ed39f8a4b", func := "lumper/lumperlaw04.CrcSame", spec := "crcSame", apart := false, narrowed := true }
def CrcSameUptoSaid : Prop := crcSameUptoRow.holds Try.pinned (OpenSpec.upto crcSameSpec)

/-- 'lumperlaw04.CrcBurst', WHERE WHAT IT READS IS OF BULK AT MOST 1048576: true; the input reads as it did. -/
def crcBurstUptoRow : OpenClaim := { program := "ytpalnlcjhpkkpaa", sum := "25429cbcb288f02c8207423b91c3e4f41c5433b0fb9e937b8a403d2ed39f8a4b", func := "lumper/lumperlaw04.CrcBurst", spec := "crcBurst", apart := false, narrowed := true }
def CrcBurstUptoSaid : Prop := crcBurstUptoRow.holds Try.pinned (OpenSpec.upto crcBurstSpec)

/-- 'lumperlaw04.CrcThree', WHERE WHAT IT READS IS OF BULK AT MOST 1048576: true; the input reads as it did. -/
def crcThreeUptoRow : OpenClaim := { program := "ytpalnlcjhpkkpaa", sum := "25429cbcb288f02c8207423b91c3e4f41c5433b0fb9e937b8a403d2ed39f8a4b", func := "lumper/lumperlaw04.CrcThree", spec := "crcThree", apart := false, narrowed := true }
def CrcThreeUptoSaid : Prop := crcThreeUptoRow.holds Try.pinned (OpenSpec.upto crcThreeSpec)

/-- 'lumperlaw05.PackTells', WHERE WHAT IT READS IS OF BULK AT MOST 1048576: true; the input reads as it did. -/
def packTellsUptoRow : OpenClaim := { program := "ytpalnlcjhpkkpaa", sum := "25429cbcb288f02c8207423b91c3e4f41c5433b0fb9e937b8a403d2ed39f8a4b", func := "lumper/lumperlaw05.PackTells", spec := "packTells", recurses := true, apart := false, narrowed := true }
def PackTellsUptoSaid : Prop := packTellsUptoRow.holds Try.pinned (OpenSpec.upto packTellsSpec)

/-- 'lumperlaw05.PackBack', WHERE WHAT IT READS IS OF BULK AT MOST 1048576: true; the input reads as it did. -/
def packBackUptoRow : OpenClaim := { program := "ytpalnlcjhpkkpaa", sum := "25429cbcb288f02c8207423b91c3e4f41c5433b0fb9e937b8a403d2ed39f8a4b", func := "lumper/lumperlaw05.PackBack", spec := "packBack", apart := false, narrowed := true }
def PackBackUptoSaid : Prop := packBackUptoRow.holds Try.pinned (OpenSpec.upto packBackSpec)

/-- 'lumperlaw05.PackOwn', WHERE WHAT IT READS IS OF BULK AT MOST 1048576: true; the input reads as it did. -/
def packOwnUptoRow : OpenClaim := { program := "ytpalnlcjhpkkpaa", sum := "25429cbcb288f02c8207423b91c3e4f41c5433b0fb9e937b8a403d2ed39f8a4b", func := "lumper/lumperlaw05.PackOwn", spec := "packOwn", apart := false, narrowed := true }
def PackOwnUptoSaid : Prop := packOwnUptoRow.holds Try.pinned (OpenSpec.upto packOwnSpec)

/-- 'lumperlaw05.PackCuts', WHERE WHAT IT READS IS OF BULK AT MOST 1048576: true; the input reads as it did. -/
def packCutsUptoRow : OpenClaim := { program := "ytpalnlcjhpkkpaa", sum := "25429cbcb288f02c8207423b91c3e4f41c5433b0fb9e937b8a403d2ed39f8a4b", func := "lumper/lumperlaw05.PackCuts", spec := "packCuts", apart := false, narrowed := true }
def PackCutsUptoSaid : Prop := packCutsUptoRow.holds Try.pinned (OpenSpec.upto packCutsSpec)

/-- 'lumperlaw05.PackOrder', WHERE WHAT IT READS IS OF BULK AT MOST 1048576: true; the input reads as it did. -/
def packOrderUptoRow : OpenClaim := { program := "ytpalnlcjhpkkpaa", sum := "25429cbcb288f02c8207423b91c3e4f41c5433b0fb9e937b8a403d2ed39f8a4b", func := "lumper/lumperlaw05.PackOrder", spec := "packOrder", apart := false, narrowed := true }
def PackOrderUptoSaid : Prop := packOrderUptoRow.holds Try.pinned (OpenSpec.upto packOrderSpec)

/-- 'lumperlaw06.FrameTells', WHERE WHAT IT READS IS OF BULK AT MOST 1048576: true; the input reads as it did. -/
def frameTellsUptoRow : OpenClaim := { program := "ytpalnlcjhpkkpaa", sum := "25429cbcb288f02c8207423b91c3e4f41c5433b0fb9e937b8a403d2ed39f8a4b", func := "lumper/lumperlaw06.FrameTells", spec := "frameTells", unfollowed := true, recurses := true, apart := false, narrowed := true }
def FrameTellsUptoSaid : Prop := frameTellsUptoRow.holds Try.pinned (OpenSpec.upto frameTellsSpec)

/-- 'lumperlaw06.FrameBack', WHERE WHAT IT READS IS OF BULK AT MOST 1048576: true; the input reads as it did. -/
def frameBackUptoRow : OpenClaim := { program := "ytpalnlcjhpkkpaa", sum := "25429cbcb288f02c8207423b91c3e4f41c5433b0fb9e937b8a403d2ed39f8a4b", func := "lumper/lumperlaw06.FrameBack", spec := "frameBack", unfollowed := true, recurses := true, apart := false, narrowed := true }
def FrameBackUptoSaid : Prop := frameBackUptoRow.holds Try.pinned (OpenSpec.upto frameBackSpec)

/-- 'lumperlaw06.FrameCuts', WHERE WHAT IT READS IS OF BULK AT MOST 1048576: true; the input reads as it did. -/
def frameCutsUptoRow : OpenClaim := { program := "ytpalnlcjhpkkpaa", sum := "25429cbcb288f02c8207423b91c3e4f41c5433b0fb9e937b8a403d2ed39f8a4b", func := "lumper/lumperlaw06.FrameCuts", spec := "frameCuts", unfollowed := true, recurses := true, apart := false, narrowed := true }
def FrameCutsUptoSaid : Prop := frameCutsUptoRow.holds Try.pinned (OpenSpec.upto frameCutsSpec)

/-- 'lumperlaw06.FrameBurst', WHERE WHAT IT READS IS OF BULK AT MOST 1048576: true; the input reads as it did. -/
def frameBurstUptoRow : OpenClaim := { program := "ytpalnlcjhpkkpaa", sum := "25429cbcb288f02c8207423b91c3e4f41c5433b0fb9e937b8a403d2ed39f8a4b", func := "lumper/lumperlaw06.FrameBurst", spec := "frameBurst", unfollowed := true, recurses := true, apart := false, narrowed := true }
def FrameBurstUptoSaid : Prop := frameBurstUptoRow.holds Try.pinned (OpenSpec.upto frameBurstSpec)

/-- 'lumperlaw06.FrameOwn', WHERE WHAT IT READS IS OF BULK AT MOST 1048576: true; the input reads as it did. -/
def frameOwnUptoRow : OpenClaim := { program := "ytpalnlcjhpkkpaa", sum := "25429cbcb288f02c8207423b91c3e4f41c5433b0fb9e937b8a403d2ed39f8a4b", func := "lumper/lumperlaw06.FrameOwn", spec := "frameOwn", unfollowed := true, recurses := true, apart := false, narrowed := true }
def FrameOwnUptoSaid : Prop := frameOwnUptoRow.holds Try.pinned (OpenSpec.upto frameOwnSpec)

end Rows
end Go.Proofs.Ytpalnlcjhpkkpaa
