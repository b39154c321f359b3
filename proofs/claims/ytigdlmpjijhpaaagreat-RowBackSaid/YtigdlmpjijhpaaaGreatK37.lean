import Derived.Test.YtigdlmpjijhpaaaGreatKA
import Derived.Test.YtigdlmpjijhpaaaGreatK22
import Derived.Shelf.SlSortCmp.WholeK
import Derived.Shelf.SlSortCmp.NoneTotal
import Derived.Shelf.SlicesG.Cmp
import Derived.Test.YtigdlmpjijhpaaaGreatK09
import Derived.Test.YtigdlmpjijhpaaaGreatK36
import Derived.Test.YtigdlmpjijhpaaaGreatProg
import Derived.Shelf.RegionOpenPlain
import Derived.WalkKit
import Derived.Deep.LoopGhost
import Derived.Deep.RegionLaw
import Derived.Lib.Walk
import Derived.Sort.WalkB12
import Derived.Lib.SliceRun
import Derived.Lib.SlicesDelete
import Derived.Laws.CopyOwn
import Derived.Great.BuildSlice
import Derived.Shelf.SortG.Plain
set_option linter.all false
namespace Go.Proofs.YtigdlmpjijhpaaaGreat.Ax
open Go Go.Proofs Go.Shelf
def z0a:Go.Shelf.Ren:=⟨fun|6=>120|15=>175|14=>194|28=>236|29=>155|20=>247|21=>248|22=>249|23=>250|24=>251|25=>252|26=>253|27=>254|46=>286|47=>279|48=>280|49=>287|50=>288|57=>300|n=>n,fun|22=>126|24=>194|25=>206|3=>3|39=>258|0=>0|53=>308|55=>241|4=>4|46=>302|45=>301|50=>174|5=>5|9=>9|66=>335|70=>109|76=>349|77=>167|n=>n,fun|n=>n⟩
theorem WC:Go.Proofs.SlLaysF0.n6 Tryz.prog z0a:={
 mixed:=by kernel_rfl
 f6:=⟨Tryz.f120.name,by decide,Tryz.func120.trans (congrArg some (by kernel_rfl))⟩
 f14:=⟨Tryz.f194.name,by decide,Tryz.func194.trans (congrArg some (by kernel_rfl))⟩
 f15:=Tryz.func175.trans (congrArg some (by kernel_rfl))
 f20:=⟨Tryz.f247.name,by decide,Tryz.func247.trans (congrArg some (by kernel_rfl))⟩
 f21:=⟨Tryz.f248.name,by decide,Tryz.func248.trans (congrArg some (by kernel_rfl))⟩
 f22:=⟨Tryz.f249.name,by decide,Tryz.func249.trans (congrArg some (by kernel_rfl))⟩
 f23:=⟨Tryz.f250.name,by decide,Tryz.func250.trans (congrArg some (by kernel_rfl))⟩
 f24:=⟨Tryz.f251.name,by decide,Tryz.func251.trans (congrArg some (by kernel_rfl))⟩
 f25:=⟨Tryz.f252.name,by decide,Tryz.func252.trans (congrArg some (by kernel_rfl))⟩
 f26:=⟨Tryz.f253.name,by decide,Tryz.func253.trans (congrArg some (by kernel_rfl))⟩
 f27:=⟨Tryz.f254.name,by decide,Tryz.func254.trans (congrArg some (by kernel_rfl))⟩
 f28:=Tryz.func236.trans (congrArg some (by kernel_rfl))
 f29:=Tryz.func155.trans (congrArg some (by kernel_rfl))
 f46:=⟨Tryz.f286.name,by decide,Tryz.func286.trans (congrArg some (by kernel_rfl))⟩
 f47:=Tryz.func279.trans (congrArg some (by kernel_rfl))
 f48:=Tryz.func280.trans (congrArg some (by kernel_rfl))
 f49:=⟨Tryz.f287.name,by decide,Tryz.func287.trans (congrArg some (by kernel_rfl))⟩
 f50:=⟨Tryz.f288.name,by decide,Tryz.func288.trans (congrArg some (by kernel_rfl))⟩
 f57:=⟨Tryz.f300.name,by decide,Tryz.func300.trans (congrArg some (by kernel_rfl))⟩
 t0:=Tryz.underlying0
 a0:=Tryz.isAgg0
 z0:=Tryz.sizeOf0
 v0:=Tryz.zeroValue0
 t3:=Tryz.underlying3
 a3:=Tryz.isAgg3
 z3:=Tryz.sizeOf3
 v3:=Tryz.zeroValue3
 t4:=Tryz.underlying4
 a4:=Tryz.isAgg4
 z4:=Tryz.sizeOf4
 v4:=Tryz.zeroValue4
 t5:=Tryz.underlying5
 a5:=Tryz.isAgg5
 z5:=Tryz.sizeOf5
 v5:=Tryz.zeroValue5
 t9:=Tryz.underlying9
 a9:=Tryz.isAgg9
 z9:=Tryz.sizeOf9
 v9:=Tryz.zeroValue9
 t22:=Tryz.underlying126
 a22:=Tryz.isAgg126
 z22:=Tryz.sizeOf126
 v22:=Tryz.zeroValue126
 t25:=Tryz.underlying206
 a25:=Tryz.isAgg206
 z25:=Tryz.sizeOf206
 v25:=Tryz.zeroValue206
 t39:=Tryz.underlying258
 a39:=Tryz.isAgg258
 z39:=Tryz.sizeOf258
 v39:=Tryz.zeroValue258
 t45:=Tryz.underlying301
 a45:=Tryz.isAgg301
 z45:=Tryz.sizeOf301
 v45:=Tryz.zeroValue301
 t46:=Tryz.underlying302
 a46:=Tryz.isAgg302
 z46:=Tryz.sizeOf302
 v46:=Tryz.zeroValue302
 t50:=Tryz.underlying174
 a50:=Tryz.isAgg174
 z50:=Tryz.sizeOf174
 v50:=Tryz.zeroValue174
 t53:=Tryz.underlying308
 a53:=Tryz.isAgg308
 z53:=Tryz.sizeOf308
 v53:=Tryz.zeroValue308
 t55:=Tryz.underlying241
 a55:=Tryz.isAgg241
 z55:=Tryz.sizeOf241
 v55:=Tryz.zeroValue241
 t66:=Tryz.underlying335
 a66:=Tryz.isAgg335
 z66:=Tryz.sizeOf335
 v66:=Tryz.zeroValue335
 t70:=Tryz.underlying109
 a70:=Tryz.isAgg109
 z70:=Tryz.sizeOf109
 v70:=Tryz.zeroValue109
 t76:=Tryz.underlying349
 a76:=Tryz.isAgg349
 z76:=Tryz.sizeOf349
 v76:=Tryz.zeroValue349
 t77:=Tryz.underlying167
 a77:=Tryz.isAgg167
 z77:=Tryz.sizeOf167
 v77:=Tryz.zeroValue167 }
end Go.Proofs.YtigdlmpjijhpaaaGreat.Ax
namespace Go.Proofs.YtigdlmpjijhpaaaGreat.Ax
open Go Go.RowKit
section
variable {P:Program} {ops:Array Oper}
theorem WE{o:Oper}{a:Act}{w w':World}{v:Value}{K:Act->World->Prop}{Q:Exit->Act->World->Prop}(h:(execOp a.eval o).run P w= .ok (.value v) w')(k:K (a.put o.dst v) w'):o.wp P a w K Q:=by
 unfold Oper.wp
 rw[h]
 exact k
end
open Go.Proofs
theorem XN(w:World):(Instr.build 113 #[]).run Tryz.prog w= .ok (.agg #[]) w:=by
 simp[go_sem,Instr.build]
theorem XO(w:World):(Instr.makeInterface 113 (.agg #[])).run Tryz.prog w= .ok (.iface 113 (.agg #[])) w:=by
 simp[go_sem,Instr.makeInterface]
open Go.Shelf Go.Lib Go.Sort
set_option maxRecDepth 1000000
end Go.Proofs.YtigdlmpjijhpaaaGreat.Ax
namespace Go.Proofs.YtigdlmpjijhpaaaGreat.Ax
open Go Go.Proofs Go.Shelf
open Go.RowKit Go.Lib Go.Sort
set_option maxRecDepth 100000
def XQa(a b:Int):Int:=if a=0 then b else a
structure JK (wd:World) (b:Nat) (x y:Int × Int) (r1 r2:Int) (S:Nat->Bool) (os:Array Obj) (x4 x5 x6 x7 x8 x9 x10 x11 x12 x13 x14 x15 x16:Value):Prop where
 k0:S 0=true->x5= .pointer (some ⟨b,0,none⟩)
 k1:S 1=true->x6= .int .i64 x.1
 k2:S 2=true->x7= .pointer (some ⟨b+1,0,none⟩)
 k3:S 3=true->x8= .int .i64 y.1
 k4:S 4=true->x9= .int .i64 r1
 k5:S 5=true->x10= .pointer (some ⟨b,1,none⟩)
 k6:S 6=true->x11= .int .i64 x.2
 k7:S 7=true->x12= .pointer (some ⟨b+1,1,none⟩)
 k8:S 8=true->x13= .int .i64 y.2
 k9:S 9=true->x14= .int .i64 r2
 k10:S 10=true->∃k,x15= .slice (some ⟨k,0,none⟩) 2 2/\(grow wd os).cell? ⟨k,0,none⟩=some (.int .i64 r1)/\(grow wd os).cell? ⟨k,1,none⟩=some (.int .i64 r2)
 k11:S 11=true->x16= .int .i64 (XQa r1 r2)
 k12:S 12=true->x4= .int .i64 (XQa r1 r2)
end Go.Proofs.YtigdlmpjijhpaaaGreat.Ax
namespace Go.Proofs.YtigdlmpjijhpaaaGreat.Ax
open Go Go.Proofs Go.Shelf
