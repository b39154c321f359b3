/-
  No cell of these rows narrows 'for every input' (looked for: loops, veiled, ifaces, maps, wideKeys, modest, calm, conditions, laid).
  DERIVED. THE GIVEN ROWS OF THIS SEAT. 10 by the template 'for every input the law returns true; each argument reads behind the call as it read before'; 0 by the template 'total and deterministic' (their statements: YtfmldcilgbbimaaGreatTotals.lean).
  GIVEN WITH THE SEED: the statements are not yours to turn. If you find one false, say at which input.
  Laid BY PROGRAM, IN A SANDBOX (cutbox-rows.mjs): the forced cells as the released guide's own fill.sh prints them over the translation 40e227b4649bdc1b… (all of the seat's roots in one cut). By AI agents, Wed Nov 11 2026. No macro, syntax, notation, axiom, sorry.
-/
import Derived.Test.YtfmldcilgbbimaaGreatChecked
import GoSem.Claim
import GoSem.ClaimJoined
import GoSem.ClaimMapViews
import Derived.JoinedTies
import Derived.KernelRfl
namespace Go.Proofs.YtfmldcilgbbimaaGreat
/- THE CELL 'sum', in the pinned program and in every row, IS THE sha256 OF THE DUMP (.gsa) THAT YtfmldcilgbbimaaGreatProg.lean LOADS. Nothing in Lean hashes anything: it is a label: what it is worth is what the hold of that sum in a sandbox is worth. -/
noncomputable def Tryz.pinned : Pinned := { name := "ytfmldcilgbbimaagreat", sum := "40e227b4649bdc1bdd440b477134f1156573d148e8e363b8a1ea85732678a556", checked := Tryz.checked }
namespace Rows
def none {H : Type} : Left H := { results := [], args := [] }

/-- 'lumperlaw20.RowBack': WHATEVER THE INPUT: true; the input reads as it did. -/
def rowBackSpec : ChangeSpec := { name := "rowBack", fn := fun _ => fun
  | [d1, d2, d3, d4, d5, d6] => { results := [.lit (.bool true)], args := [d1, d2, d3, d4, d5, d6] }
  | _ => none }
def rowBackRow : OpenClaim := { program := "ytfmldcilgbbimaagreat", sum := "40e227b4649bdc1bdd440b477134f1156573d148e8e363b8a1ea85732678a556", func := "lumper/lumperlaw20.RowBack", spec := "rowBack", unfollowed := true, recurses := true, plainKeys := false, apart := false }
def RowBackSaid : Prop := rowBackRow.holds Tryz.pinned (OpenSpec.ofChange rowBackSpec)

/-- ITS FALSE NEIGHBOUR: 'it returns false'. Refute it at one input. -/
def rowBackWrong : ChangeSpec := { name := "rowBack", fn := fun _ => fun
  | [d1, d2, d3, d4, d5, d6] => { results := [.lit (.bool false)], args := [d1, d2, d3, d4, d5, d6] }
  | _ => none }
def RowBackWrongFalsely : Prop := rowBackRow.holds Tryz.pinned (OpenSpec.ofChange rowBackWrong)

/-- 'lumperlaw20.RowWeeks': WHATEVER THE INPUT: true; the input reads as it did. -/
def rowWeeksSpec : ChangeSpec := { name := "rowWeeks", fn := fun _ => fun
  | [d1, d2, d3] => { results := [.lit (.bool true)], args := [d1, d2, d3] }
  | _ => none }
def rowWeeksRow : OpenClaim := { program := "ytfmldcilgbbimaagreat", sum := "40e227b4649bdc1bdd440b477134f1156573d148e8e363b8a1ea85732678a556", func := "lumper/lumperlaw20.RowWeeks", spec := "rowWeeks", unfollowed := true, recurses := true, plainKeys := false, apart := false }
def RowWeeksSaid : Prop := rowWeeksRow.holds Tryz.pinned (OpenSpec.ofChange rowWeeksSpec)

/-- ITS FALSE NEIGHBOUR: 'it returns false'. Refute it at one input. -/
def rowWeeksWrong : ChangeSpec := { name := "rowWeeks", fn := fun _ => fun
  | [d1, d2, d3] => { results := [.lit (.bool false)], args := [d1, d2, d3] }
  | _ => none }
def RowWeeksWrongFalsely : Prop := rowWeeksRow.holds Tryz.pinned (OpenSpec.ofChange rowWeeksWrong)

/-- 'lumperlaw20.RowGross': WHATEVER THE INPUT: true; the input reads as it did. -/
def rowGrossSpec : ChangeSpec := { name := "rowGross", fn := fun _ => fun
  | [d1, d2, d3, d4] => { results := [.lit (.bool true)], args := [d1, d2, d3, d4] }
  | _ => none }
def rowGrossRow : OpenClaim := { program := "ytfmldcilgbbimaagreat", sum := "40e227b4649bdc1bdd440b477134f1156573d148e8e363b8a1ea85732678a556", func := "lumper/lumperlaw20.RowGross", spec := "rowGross", unfollowed := true, recurses := true, plainKeys := false, apart := false }
def RowGrossSaid : Prop := rowGrossRow.holds Tryz.pinned (OpenSpec.ofChange rowGrossSpec)

/-- ITS FALSE NEIGHBOUR: 'it returns false'. Refute it at one input. -/
def rowGrossWrong : ChangeSpec := { name := "rowGross", fn := fun _ => fun
  | [d1, d2, d3, d4] => { results := [.lit (.bool false)], args := [d1, d2, d3, d4] }
  | _ => none }
def RowGrossWrongFalsely : Prop := rowGrossRow.holds Tryz.pinned (OpenSpec.ofChange rowGrossWrong)

/-- 'lumperlaw20.RowCuts': WHATEVER THE INPUT: true; the input reads as it did. -/
def rowCutsSpec : ChangeSpec := { name := "rowCuts", fn := fun _ => fun
  | [d1, d2, d3] => { results := [.lit (.bool true)], args := [d1, d2, d3] }
  | _ => none }
def rowCutsRow : OpenClaim := { program := "ytfmldcilgbbimaagreat", sum := "40e227b4649bdc1bdd440b477134f1156573d148e8e363b8a1ea85732678a556", func := "lumper/lumperlaw20.RowCuts", spec := "rowCuts", unfollowed := true, recurses := true, plainKeys := false, apart := false }
def RowCutsSaid : Prop := rowCutsRow.holds Tryz.pinned (OpenSpec.ofChange rowCutsSpec)

/-- ITS FALSE NEIGHBOUR: 'it returns false'. Refute it at one input. -/
def rowCutsWrong : ChangeSpec := { name := "rowCuts", fn := fun _ => fun
  | [d1, d2, d3] => { results := [.lit (.bool false)], args := [d1, d2, d3] }
  | _ => none }
def RowCutsWrongFalsely : Prop := rowCutsRow.holds Tryz.pinned (OpenSpec.ofChange rowCutsWrong)

/-- 'lumperlaw21.BookErrors': WHATEVER THE INPUT: true; the input reads as it did. -/
def bookErrorsSpec : ChangeSpec := { name := "bookErrors", fn := fun _ => fun
  | [d1, d2] => { results := [.lit (.bool true)], args := [d1, d2] }
  | _ => none }
def bookErrorsRow : OpenClaim := { program := "ytfmldcilgbbimaagreat", sum := "40e227b4649bdc1bdd440b477134f1156573d148e8e363b8a1ea85732678a556", func := "lumper/lumperlaw21.BookErrors", spec := "bookErrors", unfollowed := true, recurses := true, plainKeys := false, apart := false }
def BookErrorsSaid : Prop := bookErrorsRow.holds Tryz.pinned (OpenSpec.ofChange bookErrorsSpec)

/-- ITS FALSE NEIGHBOUR: 'it returns false'. Refute it at one input. -/
def bookErrorsWrong : ChangeSpec := { name := "bookErrors", fn := fun _ => fun
  | [d1, d2] => { results := [.lit (.bool false)], args := [d1, d2] }
  | _ => none }
def BookErrorsWrongFalsely : Prop := bookErrorsRow.holds Tryz.pinned (OpenSpec.ofChange bookErrorsWrong)

/-- 'lumperlaw21.BookClosed': WHATEVER THE INPUT: true; the input reads as it did. -/
def bookClosedSpec : ChangeSpec := { name := "bookClosed", fn := fun _ => fun
  | [d1, d2] => { results := [.lit (.bool true)], args := [d1, d2] }
  | _ => none }
def bookClosedRow : OpenClaim := { program := "ytfmldcilgbbimaagreat", sum := "40e227b4649bdc1bdd440b477134f1156573d148e8e363b8a1ea85732678a556", func := "lumper/lumperlaw21.BookClosed", spec := "bookClosed", unfollowed := true, recurses := true, plainKeys := false, apart := false }
def BookClosedSaid : Prop := bookClosedRow.holds Tryz.pinned (OpenSpec.ofChange bookClosedSpec)

/-- ITS FALSE NEIGHBOUR: 'it returns false'. Refute it at one input. -/
def bookClosedWrong : ChangeSpec := { name := "bookClosed", fn := fun _ => fun
  | [d1, d2] => { results := [.lit (.bool false)], args := [d1, d2] }
  | _ => none }
def BookClosedWrongFalsely : Prop := bookClosedRow.holds Tryz.pinned (OpenSpec.ofChange bookClosedWrong)

/-- 'lumperlaw21.BookWeeks': WHATEVER THE INPUT: true; the input reads as it did. -/
def bookWeeksSpec : ChangeSpec := { name := "bookWeeks", fn := fun _ => fun
  | [d1, d2, d3] => { results := [.lit (.bool true)], args := [d1, d2, d3] }
  | _ => none }
def bookWeeksRow : OpenClaim := { program := "ytfmldcilgbbimaagreat", sum := "40e227b4649bdc1bdd440b477134f1156573d148e8e363b8a1ea85732678a556", func := "lumper/lumperlaw21.BookWeeks", spec := "bookWeeks", unfollowed := true, recurses := true, plainKeys := false, apart := false }
def BookWeeksSaid : Prop := bookWeeksRow.holds Tryz.pinned (OpenSpec.ofChange bookWeeksSpec)

/-- ITS FALSE NEIGHBOUR: 'it returns false'. Refute it at one input. -/
def bookWeeksWrong : ChangeSpec := { name := "bookWeeks", fn := fun _ => fun
  | [d1, d2, d3] => { results := [.lit (.bool false)], args := [d1, d2, d3] }
  | _ => none }
def BookWeeksWrongFalsely : Prop := bookWeeksRow.holds Tryz.pinned (OpenSpec.ofChange bookWeeksWrong)

/-- 'lumperlaw21.BookParts': WHATEVER THE INPUT: true; the input reads as it did. -/
def bookPartsSpec : ChangeSpec := { name := "bookParts", fn := fun _ => fun
  | [d1, d2, d3] => { results := [.lit (.bool true)], args := [d1, d2, d3] }
  | _ => none }
def bookPartsRow : OpenClaim := { program := "ytfmldcilgbbimaagreat", sum := "40e227b4649bdc1bdd440b477134f1156573d148e8e363b8a1ea85732678a556", func := "lumper/lumperlaw21.BookParts", spec := "bookParts", unfollowed := true, recurses := true, plainKeys := false, apart := false }
def BookPartsSaid : Prop := bookPartsRow.holds Tryz.pinned (OpenSpec.ofChange bookPartsSpec)

/-- ITS FALSE NEIGHBOUR: 'it returns false'. Refute it at one input. -/
def bookPartsWrong : ChangeSpec := { name := "bookParts", fn := fun _ => fun
  | [d1, d2, d3] => { results := [.lit (.bool false)], args := [d1, d2, d3] }
  | _ => none }
def BookPartsWrongFalsely : Prop := bookPartsRow.holds Tryz.pinned (OpenSpec.ofChange bookPartsWrong)

/-- 'lumperlaw21.BookKeeps': WHATEVER THE INPUT: true; the input reads as it did. -/
def bookKeepsSpec : ChangeSpec := { name := "bookKeeps", fn := fun _ => fun
  | [d1, d2] => { results := [.lit (.bool true)], args := [d1, d2] }
  | _ => none }
def bookKeepsRow : OpenClaim := { program := "ytfmldcilgbbimaagreat", sum := "40e227b4649bdc1bdd440b477134f1156573d148e8e363b8a1ea85732678a556", func := "lumper/lumperlaw21.BookKeeps", spec := "bookKeeps", unfollowed := true, recurses := true, plainKeys := false, apart := false }
def BookKeepsSaid : Prop := bookKeepsRow.holds Tryz.pinned (OpenSpec.ofChange bookKeepsSpec)

/-- ITS FALSE NEIGHBOUR: 'it returns false'. Refute it at one input. -/
def bookKeepsWrong : ChangeSpec := { name := "bookKeeps", fn := fun _ => fun
  | [d1, d2] => { results := [.lit (.bool false)], args := [d1, d2] }
  | _ => none }
def BookKeepsWrongFalsely : Prop := bookKeepsRow.holds Tryz.pinned (OpenSpec.ofChange bookKeepsWrong)

/-- 'lumperlaw21.BookExports': WHATEVER THE INPUT: true; the input reads as it did. -/
def bookExportsSpec : ChangeSpec := { name := "bookExports", fn := fun _ => fun
  | [d1, d2, d3] => { results := [.lit (.bool true)], args := [d1, d2, d3] }
  | _ => none }
def bookExportsRow : OpenClaim := { program := "ytfmldcilgbbimaagreat", sum := "40e227b4649bdc1bdd440b477134f1156573d148e8e363b8a1ea85732678a556", func := "lumper/lumperlaw21.BookExports", spec := "bookExports", unfollowed := true, recurses := true, plainKeys := false, apart := false }
def BookExportsSaid : Prop := bookExportsRow.holds Tryz.pinned (OpenSpec.ofChange bookExportsSpec)

/-- ITS FALSE NEIGHBOUR: 'it returns false'. Refute it at one input. -/
def bookExportsWrong : ChangeSpec := { name := "bookExports", fn := fun _ => fun
  | [d1, d2, d3] => { results := [.lit (.bool false)], args := [d1, d2, d3] }
  | _ => none }
def BookExportsWrongFalsely : Prop := bookExportsRow.holds Tryz.pinned (OpenSpec.ofChange bookExportsWrong)

/- THE SECOND FORM. 'bulk': how many values and letters a reading holds, each counted each time it is reached (what is shared counts as often as it is met; a slice's spare places count too). A statement '..UptoSaid' is the law's where the arguments, and the package variables that the reading takes, are together of bulk at most 1048576: NARROWER than '..Said'. Prove '..Said' where nothing that the law and all that it calls make is longer than what came in: it says more and counts as full. Else prove '..UptoSaid'. A law counts once. -/
mutual
def uptoBulk {H : Type} : DataW H → Nat
  | .lit (.string bytes) => bytes.length + 1
  | .lit _ => 1
  | .nil => 1
  | .ptr d => uptoBulk d + 1
  | .slice elems spare => uptoBulkAll elems + uptoBulkAll spare + 1
  | .agg parts => uptoBulkAll parts + 1
  | .iface _ d => uptoBulk d + 1
  | .map entries => uptoBulkEntries entries + 1
  | .held _ => 1
def uptoBulkAll {H : Type} : List (DataW H) → Nat
  | [] => 0
  | d :: r => uptoBulk d + uptoBulkAll r
def uptoBulkEntries {H : Type} : List (Lit × DataW H) → Nat
  | [] => 0
  | x :: r => uptoBulkEntry x + uptoBulkEntries r
def uptoBulkEntry {H : Type} : Lit × DataW H → Nat
  | (.string bytes, d) => bytes.length + uptoBulk d + 1
  | (_, d) => uptoBulk d + 1
 end
def uptoSmall : (H : Type) → List (DataW H) → Bool := fun _ ds => decide (uptoBulkAll ds ≤ 1048576)
def OpenSpec.upto (s : _root_.Go.ChangeSpec) : _root_.Go.OpenSpec := { _root_.Go.OpenSpec.ofChange s with cond := some uptoSmall }

/-- 'lumperlaw20.RowBack', WHERE WHAT IT READS IS OF BULK AT MOST 1048576: true; the input reads as it did. -/
def rowBackUptoRow : OpenClaim := { program := "ytfmldcilgbbimaagreat", sum := "40e227b4649bdc1bdd440b477134f1156573d148e8e363b8a1ea85732678a556", func := "lumper/lumperlaw20.RowBack", spec := "rowBack", unfollowed := true, recurses := true, plainKeys := false, apart := false, narrowed := true }
def RowBackUptoSaid : Prop := rowBackUptoRow.holds Tryz.pinned (OpenSpec.upto rowBackSpec)

/-- 'lumperlaw20.RowWeeks', WHERE WHAT IT READS IS OF BULK AT MOST 1048576: true; the input reads as it did. -/
def rowWeeksUptoRow : OpenClaim := { program := "ytfmldcilgbbimaagreat", sum := "40e227b4649bdc1bdd440b477134f1156573d148e8e363b8a1ea85732678a556", func := "lumper/lumperlaw20.RowWeeks", spec := "rowWeeks", unfollowed := true, recurses := true, plainKeys := false, apart := false, narrowed := true }
def RowWeeksUptoSaid : Prop := rowWeeksUptoRow.holds Tryz.pinned (OpenSpec.upto rowWeeksSpec)

/-- 'lumperlaw20.RowGross', WHERE WHAT IT READS IS OF BULK AT MOST 1048576: true; the input reads as it did. -/
def rowGrossUptoRow : OpenClaim := { program := "ytfmldcilgbbimaagreat", sum := "40e227b4649bdc1bdd440b477134f1156573d148e8e363b8a1ea85732678a556", func := "lumper/lumperlaw20.RowGross", spec := "rowGross", unfollowed := true, recurses := true, plainKeys := false, apart := false, narrowed := true }
def RowGrossUptoSaid : Prop := rowGrossUptoRow.holds Tryz.pinned (OpenSpec.upto rowGrossSpec)

/-- 'lumperlaw20.RowCuts', WHERE WHAT IT READS IS OF BULK AT MOST 1048576: true; the input reads as it did. -/
def rowCutsUptoRow : OpenClaim := { program := "ytfmldcilgbbimaagreat", sum := "40e227b4649bdc1bdd440b477134f1156573d148e8e363b8a1ea85732678a556", func := "lumper/lumperlaw20.RowCuts", spec := "rowCuts", unfollowed := true, recurses := true, plainKeys := false, apart := false, narrowed := true }
def RowCutsUptoSaid : Prop := rowCutsUptoRow.holds Tryz.pinned (OpenSpec.upto rowCutsSpec)

/-- 'lumperlaw21.BookErrors', WHERE WHAT IT READS IS OF BULK AT MOST 1048576: true; the input reads as it did. -/
def bookErrorsUptoRow : OpenClaim := { program := "ytfmldcilgbbimaagreat", sum := "40e227b4649bdc1bdd440b477134f1156573d148e8e363b8a1ea85732678a556", func := "lumper/lumperlaw21.BookErrors", spec := "bookErrors", unfollowed := true, recurses := true, plainKeys := false, apart := false, narrowed := true }
def BookErrorsUptoSaid : Prop := bookErrorsUptoRow.holds Tryz.pinned (OpenSpec.upto bookErrorsSpec)

/-- 'lumperlaw21.BookClosed', WHERE WHAT IT READS IS OF BULK AT MOST 1048576: true; the input reads as it did. -/
def bookClosedUptoRow : OpenClaim := { program := "ytfmldcilgbbimaagreat", sum := "40e227b4649bdc1bdd440b477134f1156573d148e8e363b8a1ea85732678a556", func := "lumper/lumperlaw21.BookClosed", spec := "bookClosed", unfollowed := true, recurses := true, plainKeys := false, apart := false, narrowed := true }
def BookClosedUptoSaid : Prop := bookClosedUptoRow.holds Tryz.pinned (OpenSpec.upto bookClosedSpec)

/-- 'lumperlaw21.BookWeeks', WHERE WHAT IT READS IS OF BULK AT MOST 1048576: true; the input reads as it did. -/
def bookWeeksUptoRow : OpenClaim := { program := "ytfmldcilgbbimaagreat", sum := "40e227b4649bdc1bdd440b477134f1156573d148e8e363b8a1ea85732678a556", func := "lumper/lumperlaw21.BookWeeks", spec := "bookWeeks", unfollowed := true, recurses := true, plainKeys := false, apart := false, narrowed := true }
def BookWeeksUptoSaid : Prop := bookWeeksUptoRow.holds Tryz.pinned (OpenSpec.upto bookWeeksSpec)

/-- 'lumperlaw21.BookParts', WHERE WHAT IT READS IS OF BULK AT MOST 1048576: true; the input reads as it did. -/
def bookPartsUptoRow : OpenClaim := { program := "ytfmldcilgbbimaagreat", sum := "40e227b4649bdc1bdd440b477134f1156573d148e8e363b8a1ea85732678a556", func := "lumper/lumperlaw21.BookParts", spec := "bookParts", unfollowed := true, recurses := true, plainKeys := false, apart := false, narrowed := true }
def BookPartsUptoSaid : Prop := bookPartsUptoRow.holds Tryz.pinned (OpenSpec.upto bookPartsSpec)

/-- 'lumperlaw21.BookKeeps', WHERE WHAT IT READS IS OF BULK AT MOST 1048576: true; the input reads as it did. -/
def bookKeepsUptoRow : OpenClaim := { program := "ytfmldcilgbbimaagreat", sum := "40e227b4649bdc1bdd440b477134f1156573d148e8e363b8a1ea85732678a556", func := "lumper/lumperlaw21.BookKeeps", spec := "bookKeeps", unfollowed := true, recurses := true, plainKeys := false, apart := false, narrowed := true }
def BookKeepsUptoSaid : Prop := bookKeepsUptoRow.holds Tryz.pinned (OpenSpec.upto bookKeepsSpec)

/-- 'lumperlaw21.BookExports', WHERE WHAT IT READS IS OF BULK AT MOST 1048576: true; the input reads as it did. -/
def bookExportsUptoRow : OpenClaim := { program := "ytfmldcilgbbimaagreat", sum := "40e227b4649bdc1bdd440b477134f1156573d148e8e363b8a1ea85732678a556", func := "lumper/lumperlaw21.BookExports", spec := "bookExports", unfollowed := true, recurses := true, plainKeys := false, apart := false, narrowed := true }
def BookExportsUptoSaid : Prop := bookExportsUptoRow.holds Tryz.pinned (OpenSpec.upto bookExportsSpec)

end Rows
end Go.Proofs.YtfmldcilgbbimaaGreat
