import Derived.Test.YtjeehgkolepogaaGreatK22
import Derived.Lib.Strings
import Derived.Lib.Slices
import Derived.Lib.Small
import Derived.Lib.Walk
import Derived.Lib.BitFns
import Derived.Shelf.RegionOpenPlain
import Derived.WalkKit
import Derived.Deep.LoopGhost
import Derived.Deep.RegionLaw
import Derived.Sort.WalkB12
import Derived.Lib.SliceRun
import Derived.Lib.SlicesDelete
import Derived.Laws.CopyOwn
import Derived.Shelf.SortG.Plain
set_option linter.all false
namespace Go.Proofs.YtjeehgkolepogaaGreat.Ax
open Go Go.Proofs Go.Shelf
end Go.Proofs.YtjeehgkolepogaaGreat.Ax
namespace Go.Proofs.YtjeehgkolepogaaGreat.Ax
open Go Go.Proofs
open Go.Shelf Go.RowKit Go.Lib Go.Sort
set_option maxRecDepth 1000000
end Go.Proofs.YtjeehgkolepogaaGreat.Ax
namespace Go.Proofs.YtjeehgkolepogaaGreat.Ax
open Go Go.Proofs Go.Shelf
end Go.Proofs.YtjeehgkolepogaaGreat.Ax
namespace Go.Proofs.YtjeehgkolepogaaGreat.Ax
open Go Go.RowKit
section
variable {P:Program} {ops:Array Oper}
end
open Go.Proofs Go.Shelf Go.Lib Go.Sort
set_option maxRecDepth 100000
def vaa(a b:Int):Int:=if a=0 then b else a
structure JK (wd:World) (b:Nat) (x y:Int × Int) (r1 r2:Int) (S:Nat->Bool) (os:Array Obj) (x4 x5 x6 x7 x8 x9 x10 x11 x12 x13 x14 x15 x16:Value):Prop where
 k0:S 0=true->x5= .pointer (some ⟨b,0,none⟩)
 k1:S 1=true->x6= .int .i64 x.1
 k2:S 2=true->x7= .pointer (some ⟨b+1,0,none⟩)
 k3:S 3=true->x8= .int .i64 y.1
 k4:S 4=true->x9= .int .i64 r1
 k5:S 5=true->x10= .pointer (some ⟨b,1,none⟩)
 k6:S 6=true->x11= .int .i64 x.2
 k7:S 7=true->x12= .pointer (some ⟨b+1,1,none⟩)
 k8:S 8=true->x13= .int .i64 y.2
 k9:S 9=true->x14= .int .i64 r2
 k10:S 10=true->∃k,x15= .slice (some ⟨k,0,none⟩) 2 2/\(grow wd os).cell? ⟨k,0,none⟩=some (.int .i64 r1)/\(grow wd os).cell? ⟨k,1,none⟩=some (.int .i64 r2)
 k11:S 11=true->x16= .int .i64 (vaa r1 r2)
 k12:S 12=true->x4= .int .i64 (vaa r1 r2)
end Go.Proofs.YtjeehgkolepogaaGreat.Ax
namespace Go.Proofs.YtjeehgkolepogaaGreat.Ax
open Go Go.Proofs Go.Shelf
