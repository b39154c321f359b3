/-
  Joined.
-/
import Derived.Test.YtfmldcilgbbimaaGreatK22
import Derived.Shelf.SlSortCmp.WholeK
import Derived.Shelf.SlSortCmp.NoneTotal
import Derived.Shelf.SlicesG.Cmp
import Derived.Test.YtfmldcilgbbimaaGreatProg
import Derived.Shelf.RegionOpenPlain
import Derived.WalkKit
import Derived.Deep.LoopGhost
import Derived.Deep.RegionLaw
import Derived.Lib.Walk
import Derived.Sort.WalkB12
import Derived.Lib.SliceRun
import Derived.Lib.SlicesDelete
import Derived.Laws.CopyOwn
import Derived.Test.YtfmldcilgbbimaaGreatK09
import Derived.Great.BuildSlice
import Derived.Shelf.SortG.Plain
set_option linter.unusedSimpArgs false
set_option linter.unusedVariables false
namespace Go.Proofs.YtfmldcilgbbimaaGreat.Ax
open Go Go.Proofs Go.Shelf
def VY:Go.Shelf.Ren:=⟨fun | 6=>106 | 15=>158 | 14=>176 | 28=>214 | 29=>141 | 20=>225 | 21=>226 | 22=>227 | 23=>228 | 24=>229 | 25=>230 | 26=>231 | 27=>232 | 46=>264 | 47=>257 | 48=>258 | 49=>265 | 50=>266 | 57=>277 | n=>n,fun | 22=>117 | 24=>175 | 25=>187 | 3=>3 | 39=>234 | 0=>0 | 53=>281 | 55=>221 | 4=>4 | 46=>274 | 45=>273 | 50=>278 | 5=>5 | 9=>9 | 66=>309 | 70=>101 | 76=>322 | 77=>156 | n=>n,fun | n=>n⟩
theorem X9:Go.Proofs.SlLaysF0.n6 Tryz.prog VY:={
 mixed:=by kernel_rfl
 f6:=⟨Tryz.f106.name,by decide,Tryz.func106.trans (congrArg some (by kernel_rfl))⟩
 f14:=⟨Tryz.f176.name,by decide,Tryz.func176.trans (congrArg some (by kernel_rfl))⟩
 f15:=Tryz.func158.trans (congrArg some (by kernel_rfl))
 f20:=⟨Tryz.f225.name,by decide,Tryz.func225.trans (congrArg some (by kernel_rfl))⟩
 f21:=⟨Tryz.f226.name,by decide,Tryz.func226.trans (congrArg some (by kernel_rfl))⟩
 f22:=⟨Tryz.f227.name,by decide,Tryz.func227.trans (congrArg some (by kernel_rfl))⟩
 f23:=⟨Tryz.f228.name,by decide,Tryz.func228.trans (congrArg some (by kernel_rfl))⟩
 f24:=⟨Tryz.f229.name,by decide,Tryz.func229.trans (congrArg some (by kernel_rfl))⟩
 f25:=⟨Tryz.f230.name,by decide,Tryz.func230.trans (congrArg some (by kernel_rfl))⟩
 f26:=⟨Tryz.f231.name,by decide,Tryz.func231.trans (congrArg some (by kernel_rfl))⟩
 f27:=⟨Tryz.f232.name,by decide,Tryz.func232.trans (congrArg some (by kernel_rfl))⟩
 f28:=Tryz.func214.trans (congrArg some (by kernel_rfl))
 f29:=Tryz.func141.trans (congrArg some (by kernel_rfl))
 f46:=⟨Tryz.f264.name,by decide,Tryz.func264.trans (congrArg some (by kernel_rfl))⟩
 f47:=Tryz.func257.trans (congrArg some (by kernel_rfl))
 f48:=Tryz.func258.trans (congrArg some (by kernel_rfl))
 f49:=⟨Tryz.f265.name,by decide,Tryz.func265.trans (congrArg some (by kernel_rfl))⟩
 f50:=⟨Tryz.f266.name,by decide,Tryz.func266.trans (congrArg some (by kernel_rfl))⟩
 f57:=⟨Tryz.f277.name,by decide,Tryz.func277.trans (congrArg some (by kernel_rfl))⟩
 t0:=Tryz.underlying0
 a0:=Tryz.isAgg0
 z0:=Tryz.sizeOf0
 v0:=Tryz.zeroValue0
 t3:=Tryz.underlying3
 a3:=Tryz.isAgg3
 z3:=Tryz.sizeOf3
 v3:=Tryz.zeroValue3
 t4:=Tryz.underlying4
 a4:=Tryz.isAgg4
 z4:=Tryz.sizeOf4
 v4:=Tryz.zeroValue4
 t5:=Tryz.underlying5
 a5:=Tryz.isAgg5
 z5:=Tryz.sizeOf5
 v5:=Tryz.zeroValue5
 t9:=Tryz.underlying9
 a9:=Tryz.isAgg9
 z9:=Tryz.sizeOf9
 v9:=Tryz.zeroValue9
 t22:=Tryz.underlying117
 a22:=Tryz.isAgg117
 z22:=Tryz.sizeOf117
 v22:=Tryz.zeroValue117
 t25:=Tryz.underlying187
 a25:=Tryz.isAgg187
 z25:=Tryz.sizeOf187
 v25:=Tryz.zeroValue187
 t39:=Tryz.underlying234
 a39:=Tryz.isAgg234
 z39:=Tryz.sizeOf234
 v39:=Tryz.zeroValue234
 t45:=Tryz.underlying273
 a45:=Tryz.isAgg273
 z45:=Tryz.sizeOf273
 v45:=Tryz.zeroValue273
 t46:=Tryz.underlying274
 a46:=Tryz.isAgg274
 z46:=Tryz.sizeOf274
 v46:=Tryz.zeroValue274
 t50:=Tryz.underlying278
 a50:=Tryz.isAgg278
 z50:=Tryz.sizeOf278
 v50:=Tryz.zeroValue278
 t53:=Tryz.underlying281
 a53:=Tryz.isAgg281
 z53:=Tryz.sizeOf281
 v53:=Tryz.zeroValue281
 t55:=Tryz.underlying221
 a55:=Tryz.isAgg221
 z55:=Tryz.sizeOf221
 v55:=Tryz.zeroValue221
 t66:=Tryz.underlying309
 a66:=Tryz.isAgg309
 z66:=Tryz.sizeOf309
 v66:=Tryz.zeroValue309
 t70:=Tryz.underlying101
 a70:=Tryz.isAgg101
 z70:=Tryz.sizeOf101
 v70:=Tryz.zeroValue101
 t76:=Tryz.underlying322
 a76:=Tryz.isAgg322
 z76:=Tryz.sizeOf322
 v76:=Tryz.zeroValue322
 t77:=Tryz.underlying156
 a77:=Tryz.isAgg156
 z77:=Tryz.sizeOf156
 v77:=Tryz.zeroValue156 }
end Go.Proofs.YtfmldcilgbbimaaGreat.Ax
namespace Go.Proofs.YtfmldcilgbbimaaGreat.Ax
open Go Go.Proofs Go.Shelf Go.RowKit Go.Lib Go.Sort
set_option maxRecDepth 1000000
end Go.Proofs.YtfmldcilgbbimaaGreat.Ax
namespace Go.Proofs.YtfmldcilgbbimaaGreat.Ax
open Go Go.Proofs Go.Shelf
end Go.Proofs.YtfmldcilgbbimaaGreat.Ax
namespace Go.Proofs.YtfmldcilgbbimaaGreat.Ax
open Go Go.RowKit
section
variable {P:Program} {ops:Array Oper}
end
end Go.Proofs.YtfmldcilgbbimaaGreat.Ax
namespace Go.Proofs.YtfmldcilgbbimaaGreat.Ax
open Go Go.Proofs Go.Shelf Go.RowKit Go.Lib Go.Sort
set_option maxRecDepth 100000
def yta (a b:Int):Int:=if a=0 then b else a
structure JK (wd:World) (b:Nat) (x y:Int × Int) (r1 r2:Int) (S:Nat->Bool) (os:Array Obj) (x4 x5 x6 x7 x8 x9 x10 x11 x12 x13 x14 x15 x16:Value):Prop where
 k0:S 0=true->x5= .pointer (some ⟨b,0,none⟩)
 k1:S 1=true->x6= .int .i64 x.1
 k2:S 2=true->x7= .pointer (some ⟨b+1,0,none⟩)
 k3:S 3=true->x8= .int .i64 y.1
 k4:S 4=true->x9= .int .i64 r1
 k5:S 5=true->x10= .pointer (some ⟨b,1,none⟩)
 k6:S 6=true->x11= .int .i64 x.2
 k7:S 7=true->x12= .pointer (some ⟨b+1,1,none⟩)
 k8:S 8=true->x13= .int .i64 y.2
 k9:S 9=true->x14= .int .i64 r2
 k10:S 10=true->∃k,x15= .slice (some ⟨k,0,none⟩) 2 2/\(grow wd os).cell? ⟨k,0,none⟩=some (.int .i64 r1)/\(grow wd os).cell? ⟨k,1,none⟩=some (.int .i64 r2)
 k11:S 11=true->x16= .int .i64 (yta r1 r2)
 k12:S 12=true->x4= .int .i64 (yta r1 r2)
end Go.Proofs.YtfmldcilgbbimaaGreat.Ax
namespace Go.Proofs.YtfmldcilgbbimaaGreat.Ax
open Go Go.Proofs Go.Shelf
end Go.Proofs.YtfmldcilgbbimaaGreat.Ax
