/-
  No cell of these rows narrows 'for every input' (looked for: loops, veiled, ifaces, maps, wideKeys, modest, calm, conditions, laid).
  DERIVED. THE GIVEN ROWS OF THIS SEAT. 9 by the template 'for every input the law returns true; each argument reads behind the call as it read before'; 0 by the template 'total and deterministic' (their statements: YtigdlmpjijhpaaaGreatTotals.lean).
  GIVEN WITH THE SEED: the statements are not yours to turn. If you find one false, say at which input.
  Laid BY PROGRAM, IN A SANDBOX (cutbox-rows.mjs): the forced cells as the released guide's own fill.sh prints them over the translation c65388f46c982436… (all of the seat's roots in one cut). By AI agents, Wed Nov 11 2026. No macro, syntax, notation, axiom, sorry.
-/
import Derived.Test.YtigdlmpjijhpaaaGreatChecked
import GoSem.Claim
import GoSem.ClaimJoined
import GoSem.ClaimMapViews
import Derived.JoinedTies
import Derived.KernelRfl
namespace Go.Proofs.YtigdlmpjijhpaaaGreat
/- THE CELL 'sum', in the pinned program and in every row, IS THE sha256 OF THE DUMP (.gsa) THAT YtigdlmpjijhpaaaGreatProg.lean LOADS. Nothing in Lean hashes anything: it is a label: what it is worth is what the hold of that sum in a sandbox is worth. -/
noncomputable def Tryz.pinned : Pinned := { name := "ytigdlmpjijhpaaagreat", sum := "c65388f46c98243649f031372edb4966202a9c2efbbf60b748017ac943bc1669", checked := Tryz.checked }
namespace Rows
def none {H : Type} : Left H := { results := [], args := [] }

/-- 'lumperlaw20.RowBack': WHATEVER THE INPUT: true; the input reads as it did. -/
def rowBackSpec : ChangeSpec := { name := "rowBack", fn := fun _ => fun
  | [d1, d2, d3, d4, d5, d6] => { results := [.lit (.bool true)], args := [d1, d2, d3, d4, d5, d6] }
  | _ => none }
def rowBackRow : OpenClaim := { program := "ytigdlmpjijhpaaagreat", sum := "c65388f46c98243649f031372edb4966202a9c2efbbf60b748017ac943bc1669", func := "lumper/lumperlaw20.RowBack", spec := "rowBack", unfollowed := true, recurses := true, plainKeys := false, apart := false }
def RowBackSaid : Prop := rowBackRow.holds Tryz.pinned (OpenSpec.ofChange rowBackSpec)

/-- ITS FALSE NEIGHBOUR: 'it returns false'. Refute it at one input. -/
def rowBackWrong : ChangeSpec := { name := "rowBack", fn := fun _ => fun
  | [d1, d2, d3, d4, d5, d6] => { results := [.lit (.bool false)], args := [d1, d2, d3, d4, d5, d6] }
  | _ => none }
def RowBackWrongFalsely : Prop := rowBackRow.holds Tryz.pinned (OpenSpec.ofChange rowBackWrong)

/-- 'lumperlaw20.RowWeeks': WHATEVER THE INPUT: true; the input reads as it did. -/
def rowWeeksSpec : ChangeSpec := { name := "rowWeeks", fn := fun _ => fun
  | [d1, d2, d3] => { results := [.lit (.bool true)], args := [d1, d2, d3] }
  | _ => none }
def rowWeeksRow : OpenClaim := { program := "ytigdlmpjijhpaaagreat", sum := "c65388f46c98243649f031372edb4966202a9c2efbbf60b748017ac943bc1669", func := "lumper/lumperlaw20.RowWeeks", spec := "rowWeeks", unfollowed := true, recurses := true, plainKeys := false, apart := false }
def RowWeeksSaid : Prop := rowWeeksRow.holds Tryz.pinned (OpenSpec.ofChange rowWeeksSpec)

/-- ITS FALSE NEIGHBOUR: 'it returns false'. Refute it at one input. -/
def rowWeeksWrong : ChangeSpec := { name := "rowWeeks", fn := fun _ => fun
  | [d1, d2, d3] => { results := [.lit (.bool false)], args := [d1, d2, d3] }
  | _ => none }
def RowWeeksWrongFalsely : Prop := rowWeeksRow.holds Tryz.pinned (OpenSpec.ofChange rowWeeksWrong)

/-- 'lumperlaw20.RowCuts': WHATEVER THE INPUT: true; the input reads as it did. -/
def rowCutsSpec : ChangeSpec := { name := "rowCuts", fn := fun _ => fun
  | [d1, d2, d3] => { results := [.lit (.bool true)], args := [d1, d2, d3] }
  | _ => none }
def rowCutsRow : OpenClaim := { program := "ytigdlmpjijhpaaagreat", sum := "c65388f46c98243649f031372edb4966202a9c2efbbf60b748017ac943bc1669", func := "lumper/lumperlaw20.RowCuts", spec := "rowCuts", unfollowed := true, recurses := true, plainKeys := false, apart := false }
def RowCutsSaid : Prop := rowCutsRow.holds Tryz.pinned (OpenSpec.ofChange rowCutsSpec)

/-- ITS FALSE NEIGHBOUR: 'it returns false'. Refute it at one input. -/
def rowCutsWrong : ChangeSpec := { name := "rowCuts", fn := fun _ => fun
  | [d1, d2, d3] => { results := [.lit (.bool false)], args := [d1, d2, d3] }
  | _ => none }
def RowCutsWrongFalsely : Prop := rowCutsRow.holds Tryz.pinned (OpenSpec.ofChange rowCutsWrong)

/-- 'lumperlaw21.BookExports': WHATEVER THE INPUT: true; the input reads as it did. -/
def bookExportsSpec : ChangeSpec := { name := "bookExports", fn := fun _ => fun
  | [d1, d2, d3] => { results := [.lit (.bool true)], args := [d1, d2, d3] }
  | _ => none }
def bookExportsRow : OpenClaim := { program := "ytigdlmpjijhpaaagreat", sum := "c65388f46c98243649f031372edb4966202a9c2efbbf60b748017ac943bc1669", func := "lumper/lumperlaw21.BookExports", spec := "bookExports", unfollowed := true, recurses := true, plainKeys := false, apart := false }
def BookExportsSaid : Prop := bookExportsRow.holds Tryz.pinned (OpenSpec.ofChange bookExportsSpec)

/-- ITS FALSE NEIGHBOUR: 'it returns false'. Refute it at one input. -/
def bookExportsWrong : ChangeSpec := { name := "bookExports", fn := fun _ => fun
  | [d1, d2, d3] => { results := [.lit (.bool false)], args := [d1, d2, d3] }
  | _ => none }
def BookExportsWrongFalsely : Prop := bookExportsRow.holds Tryz.pinned (OpenSpec.ofChange bookExportsWrong)

/-- 'lumperlaw22.CacheRows': WHATEVER THE INPUT: true; the input reads as it did. -/
def cacheRowsSpec : ChangeSpec := { name := "cacheRows", fn := fun _ => fun
  | [d1, d2] => { results := [.lit (.bool true)], args := [d1, d2] }
  | _ => none }
def cacheRowsRow : OpenClaim := { program := "ytigdlmpjijhpaaagreat", sum := "c65388f46c98243649f031372edb4966202a9c2efbbf60b748017ac943bc1669", func := "lumper/lumperlaw22.CacheRows", spec := "cacheRows", inPlace := ["slices.overlaps[lumper/api.Row]"], unfollowed := true, recurses := true, plainKeys := false, apart := false }
def CacheRowsSaid : Prop := cacheRowsRow.holds Tryz.pinned (OpenSpec.ofChange cacheRowsSpec)

/-- ITS FALSE NEIGHBOUR: 'it returns false'. Refute it at one input. -/
def cacheRowsWrong : ChangeSpec := { name := "cacheRows", fn := fun _ => fun
  | [d1, d2] => { results := [.lit (.bool false)], args := [d1, d2] }
  | _ => none }
def CacheRowsWrongFalsely : Prop := cacheRowsRow.holds Tryz.pinned (OpenSpec.ofChange cacheRowsWrong)

/-- 'lumperlaw22.CacheKeys': WHATEVER THE INPUT: true; the input reads as it did. -/
def cacheKeysSpec : ChangeSpec := { name := "cacheKeys", fn := fun _ => fun
  | [d1, d2] => { results := [.lit (.bool true)], args := [d1, d2] }
  | _ => none }
def cacheKeysRow : OpenClaim := { program := "ytigdlmpjijhpaaagreat", sum := "c65388f46c98243649f031372edb4966202a9c2efbbf60b748017ac943bc1669", func := "lumper/lumperlaw22.CacheKeys", spec := "cacheKeys", inPlace := ["slices.overlaps[lumper/api.Row]"], unfollowed := true, recurses := true, plainKeys := false, apart := false }
def CacheKeysSaid : Prop := cacheKeysRow.holds Tryz.pinned (OpenSpec.ofChange cacheKeysSpec)

/-- ITS FALSE NEIGHBOUR: 'it returns false'. Refute it at one input. -/
def cacheKeysWrong : ChangeSpec := { name := "cacheKeys", fn := fun _ => fun
  | [d1, d2] => { results := [.lit (.bool false)], args := [d1, d2] }
  | _ => none }
def CacheKeysWrongFalsely : Prop := cacheKeysRow.holds Tryz.pinned (OpenSpec.ofChange cacheKeysWrong)

/-- 'lumperlaw22.CacheOnly': WHATEVER THE INPUT: true; the input reads as it did. -/
def cacheOnlySpec : ChangeSpec := { name := "cacheOnly", fn := fun _ => fun
  | [d1, d2] => { results := [.lit (.bool true)], args := [d1, d2] }
  | _ => none }
def cacheOnlyRow : OpenClaim := { program := "ytigdlmpjijhpaaagreat", sum := "c65388f46c98243649f031372edb4966202a9c2efbbf60b748017ac943bc1669", func := "lumper/lumperlaw22.CacheOnly", spec := "cacheOnly", inPlace := ["slices.overlaps[lumper/api.Row]"], unfollowed := true, recurses := true, plainKeys := false, apart := false }
def CacheOnlySaid : Prop := cacheOnlyRow.holds Tryz.pinned (OpenSpec.ofChange cacheOnlySpec)

/-- ITS FALSE NEIGHBOUR: 'it returns false'. Refute it at one input. -/
def cacheOnlyWrong : ChangeSpec := { name := "cacheOnly", fn := fun _ => fun
  | [d1, d2] => { results := [.lit (.bool false)], args := [d1, d2] }
  | _ => none }
def CacheOnlyWrongFalsely : Prop := cacheOnlyRow.holds Tryz.pinned (OpenSpec.ofChange cacheOnlyWrong)

/-- 'lumperlaw22.CacheAgain': WHATEVER THE INPUT: true; the input reads as it did. -/
def cacheAgainSpec : ChangeSpec := { name := "cacheAgain", fn := fun _ => fun
  | [d1, d2, d3, d4] => { results := [.lit (.bool true)], args := [d1, d2, d3, d4] }
  | _ => none }
def cacheAgainRow : OpenClaim := { program := "ytigdlmpjijhpaaagreat", sum := "c65388f46c98243649f031372edb4966202a9c2efbbf60b748017ac943bc1669", func := "lumper/lumperlaw22.CacheAgain", spec := "cacheAgain", inPlace := ["slices.overlaps[lumper/api.Row]"], unfollowed := true, recurses := true, plainKeys := false, apart := false }
def CacheAgainSaid : Prop := cacheAgainRow.holds Tryz.pinned (OpenSpec.ofChange cacheAgainSpec)

/-- ITS FALSE NEIGHBOUR: 'it returns false'. Refute it at one input. -/
def cacheAgainWrong : ChangeSpec := { name := "cacheAgain", fn := fun _ => fun
  | [d1, d2, d3, d4] => { results := [.lit (.bool false)], args := [d1, d2, d3, d4] }
  | _ => none }
def CacheAgainWrongFalsely : Prop := cacheAgainRow.holds Tryz.pinned (OpenSpec.ofChange cacheAgainWrong)

/-- 'lumperlaw22.CacheBook': WHATEVER THE INPUT: true; the input reads as it did. -/
def cacheBookSpec : ChangeSpec := { name := "cacheBook", fn := fun _ => fun
  | [d1, d2] => { results := [.lit (.bool true)], args := [d1, d2] }
  | _ => none }
def cacheBookRow : OpenClaim := { program := "ytigdlmpjijhpaaagreat", sum := "c65388f46c98243649f031372edb4966202a9c2efbbf60b748017ac943bc1669", func := "lumper/lumperlaw22.CacheBook", spec := "cacheBook", inPlace := ["slices.overlaps[lumper/api.Row]"], unfollowed := true, recurses := true, plainKeys := false, apart := false }
def CacheBookSaid : Prop := cacheBookRow.holds Tryz.pinned (OpenSpec.ofChange cacheBookSpec)

/-- ITS FALSE NEIGHBOUR: 'it returns false'. Refute it at one input. -/
def cacheBookWrong : ChangeSpec := { name := "cacheBook", fn := fun _ => fun
  | [d1, d2] => { results := [.lit (.bool false)], args := [d1, d2] }
  | _ => none }
def CacheBookWrongFalsely : Prop := cacheBookRow.holds Tryz.pinned (OpenSpec.ofChange cacheBookWrong)

/- THE SECOND FORM. 'bulk': how many values and letters a reading holds, each counted each time it is reached (what is shared counts as often as it is met; a slice's spare places count too). A statement '..UptoSaid' is the law's where the arguments, and the package variables that the reading takes, are together of bulk at most 1048576: NARROWER than '..Said'. Prove '..Said' where nothing that the law and all that it calls make is longer than what came in: it says more and counts as full. Else prove '..UptoSaid'. A law counts once. -/
mutual
def uptoBulk {H : Type} : DataW H → Nat
  | .lit (.string bytes) => bytes.length + 1
  | .lit _ => 1
  | .nil => 1
  | .ptr d => uptoBulk d + 1
  | .slice elems spare => uptoBulkAll elems + uptoBulkAll spare + 1
  | .agg parts => uptoBulkAll parts + 1
  | .iface _ d => uptoBulk d + 1
  | .map entries => uptoBulkEntries entries + 1
  | .held _ => 1
def uptoBulkAll {H : Type} : List (DataW H) → Nat
  | [] => 0
  | d :: r => uptoBulk d + uptoBulkAll r
def uptoBulkEntries {H : Type} : List (Lit × DataW H) → Nat
  | [] => 0
  | x :: r => uptoBulkEntry x + uptoBulkEntries r
def uptoBulkEntry {H : Type} : Lit × DataW H → Nat
  | (.string bytes, d) => bytes.length + uptoBulk d + 1
  | (_, d) => uptoBulk d + 1
 end
def uptoSmall : (H : Type) → List (DataW H) → Bool := fun _ ds => decide (uptoBulkAll ds ≤ 1048576)
def OpenSpec.upto (s : _root_.Go.ChangeSpec) : _root_.Go.OpenSpec := { _root_.Go.OpenSpec.ofChange s with cond := some uptoSmall }

/-- 'lumperlaw20.RowBack', WHERE WHAT IT READS IS OF BULK AT MOST 1048576: true; the input reads as it did. -/
def rowBackUptoRow : OpenClaim := { program := "ytigdlmpjijhpaaagreat", sum := "c65388f46c98243649f031372edb4966202a9c2efbbf60b748017ac943bc1669", func := "lumper/lumperlaw20.RowBack", spec := "rowBack", unfollowed := true, recurses := true, plainKeys := false, apart := false, narrowed := true }
def RowBackUptoSaid : Prop := rowBackUptoRow.holds Tryz.pinned (OpenSpec.upto rowBackSpec)

/-- 'lumperlaw20.RowWeeks', WHERE WHAT IT READS IS OF BULK AT MOST 1048576: true; the input reads as it did. -/
def rowWeeksUptoRow : OpenClaim := { program := "ytigdlmpjijhpaaagreat", sum := "c65388f46c98243649f031372edb4966202a9c2efbbf60b748017ac943bc1669", func := "lumper/lumperlaw20.RowWeeks", spec := "rowWeeks", unfollowed := true, recurses := true, plainKeys := false, apart := false, narrowed := true }
def RowWeeksUptoSaid : Prop := rowWeeksUptoRow.holds Tryz.pinned (OpenSpec.upto rowWeeksSpec)

/-- 'lumperlaw20.RowCuts', WHERE WHAT IT READS IS OF BULK AT MOST 1048576: true; the input reads as it did. -/
def rowCutsUptoRow : OpenClaim := { program := "ytigdlmpjijhpaaagreat", sum := "c65388f46c98243649f031372edb4966202a9c2efbbf60b748017ac943bc1669", func := "lumper/lumperlaw20.RowCuts", spec := "rowCuts", unfollowed := true, recurses := true, plainKeys := false, apart := false, narrowed := true }
def RowCutsUptoSaid : Prop := rowCutsUptoRow.holds Tryz.pinned (OpenSpec.upto rowCutsSpec)

/-- 'lumperlaw21.BookExports', WHERE WHAT IT READS IS OF BULK AT MOST 1048576: true; the input reads as it did. -/
def bookExportsUptoRow : OpenClaim := { program := "ytigdlmpjijhpaaagreat", sum := "c65388f46c98243649f031372edb4966202a9c2efbbf60b748017ac943bc1669", func := "lumper/lumperlaw21.BookExports", spec := "bookExports", unfollowed := true, recurses := true, plainKeys := false, apart := false, narrowed := true }
def BookExportsUptoSaid : Prop := bookExportsUptoRow.holds Tryz.pinned (OpenSpec.upto bookExportsSpec)

/-- 'lumperlaw22.CacheRows', WHERE WHAT IT READS IS OF BULK AT MOST 1048576: true; the input reads as it did. -/
def cacheRowsUptoRow : OpenClaim := { program := "ytigdlmpjijhpaaagreat", sum := "c65388f46c98243649f031372edb4966202a9c2efbbf60b748017ac943bc1669", func := "lumper/lumperlaw22.CacheRows", spec := "cacheRows", inPlace := ["slices.overlaps[lumper/api.Row]"], unfollowed := true, recurses := true, plainKeys := false, apart := false, narrowed := true }
def CacheRowsUptoSaid : Prop := cacheRowsUptoRow.holds Tryz.pinned (OpenSpec.upto cacheRowsSpec)

/-- 'lumperlaw22.CacheKeys', WHERE WHAT IT READS IS OF BULK AT MOST 1048576: true; the input reads as it did. -/
def cacheKeysUptoRow : OpenClaim := { program := "ytigdlmpjijhpaaagreat", sum := "c65388f46c98243649f031372edb4966202a9c2efbbf60b748017ac943bc1669", func := "lumper/lumperlaw22.CacheKeys", spec := "cacheKeys", inPlace := ["slices.overlaps[lumper/api.Row]"], unfollowed := true, recurses := true, plainKeys := false, apart := false, narrowed := true }
def CacheKeysUptoSaid : Prop := cacheKeysUptoRow.holds Tryz.pinned (OpenSpec.upto cacheKeysSpec)

/-- 'lumperlaw22.CacheOnly', WHERE WHAT IT READS IS OF BULK AT MOST 1048576: true; the input reads as it did. -/
def cacheOnlyUptoRow : OpenClaim := { program := "ytigdlmpjijhpaaagreat", sum := "c65388f46c98243649f031372edb4966202a9c2efbbf60b748017ac943bc1669", func := "lumper/lumperlaw22.CacheOnly", spec := "cacheOnly", inPlace := ["slices.overlaps[lumper/api.Row]"], unfollowed := true, recurses := true, plainKeys := false, apart := false, narrowed := true }
def CacheOnlyUptoSaid : Prop := cacheOnlyUptoRow.holds Tryz.pinned (OpenSpec.upto cacheOnlySpec)

/-- 'lumperlaw22.CacheAgain', WHERE WHAT IT READS IS OF BULK AT MOST 1048576: true; the input reads as it did. -/
def cacheAgainUptoRow : OpenClaim := { program := "ytigdlmpjijhpaaagreat", sum := "c65388f46c98243649f031372edb4966202a9c2efbbf60b748017ac943bc1669", func := "lumper/lumperlaw22.CacheAgain", spec := "cacheAgain", inPlace := ["slices.overlaps[lumper/api.Row]"], unfollowed := true, recurses := true, plainKeys := false, apart := false, narrowed := true }
def CacheAgainUptoSaid : Prop := cacheAgainUptoRow.holds Tryz.pinned (OpenSpec.upto cacheAgainSpec)

/-- 'lumperlaw22.CacheBook', WHERE WHAT IT READS IS OF BULK AT MOST 1048576: true; the input reads as it did. -/
def cacheBookUptoRow : OpenClaim := { program := "ytigdlmpjijhpaaagreat", sum := "c65388f46c98243649f031372edb4966202a9c2efbbf60b748017ac943bc1669", func := "lumper/lumperlaw22.CacheBook", spec := "cacheBook", inPlace := ["slices.overlaps[lumper/api.Row]"], unfollowed := true, recurses := true, plainKeys := false, apart := false, narrowed := true }
def CacheBookUptoSaid : Prop := cacheBookUptoRow.holds Tryz.pinned (OpenSpec.upto cacheBookSpec)

end Rows
end Go.Proofs.YtigdlmpjijhpaaaGreat
