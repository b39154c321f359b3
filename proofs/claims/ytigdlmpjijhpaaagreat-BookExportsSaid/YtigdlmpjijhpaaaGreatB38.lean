import Derived.Test.YtigdlmpjijhpaaaGreatBA
import Derived.Test.YtigdlmpjijhpaaaGreatB22
import Derived.Shelf.SlSortCmp.WholeK
import Derived.Shelf.SlSortCmp.NoneTotal
import Derived.Shelf.SlicesG.Cmp
import Derived.Test.YtigdlmpjijhpaaaGreatB09
import Derived.Shelf.SortG.Plain
import Derived.Test.YtigdlmpjijhpaaaGreatB37
set_option linter.all false
namespace Go.Proofs.YtigdlmpjijhpaaaGreat.Ax
open Go Go.Proofs Go.Shelf
def jTa:Go.Shelf.Ren:=⟨fun|6=>120|15=>175|14=>194|28=>236|29=>155|20=>247|21=>248|22=>249|23=>250|24=>251|25=>252|26=>253|27=>254|46=>286|47=>279|48=>280|49=>287|50=>288|57=>300|n=>n,fun|22=>126|24=>194|25=>206|3=>3|39=>258|0=>0|53=>308|55=>241|4=>4|46=>302|45=>301|50=>174|5=>5|9=>9|66=>335|70=>109|76=>349|77=>167|n=>n,fun|n=>n⟩
theorem zja:Go.Proofs.SlLaysF0.n6 Tryz.prog jTa:={
 mixed:=by kernel_rfl
 f6:=⟨Tryz.f120.name,by decide,Tryz.func120.trans (congrArg some (by kernel_rfl))⟩
 f14:=⟨Tryz.f194.name,by decide,Tryz.func194.trans (congrArg some (by kernel_rfl))⟩
 f15:=Tryz.func175.trans (congrArg some (by kernel_rfl))
 f20:=⟨Tryz.f247.name,by decide,Tryz.func247.trans (congrArg some (by kernel_rfl))⟩
 f21:=⟨Tryz.f248.name,by decide,Tryz.func248.trans (congrArg some (by kernel_rfl))⟩
 f22:=⟨Tryz.f249.name,by decide,Tryz.func249.trans (congrArg some (by kernel_rfl))⟩
 f23:=⟨Tryz.f250.name,by decide,Tryz.func250.trans (congrArg some (by kernel_rfl))⟩
 f24:=⟨Tryz.f251.name,by decide,Tryz.func251.trans (congrArg some (by kernel_rfl))⟩
 f25:=⟨Tryz.f252.name,by decide,Tryz.func252.trans (congrArg some (by kernel_rfl))⟩
 f26:=⟨Tryz.f253.name,by decide,Tryz.func253.trans (congrArg some (by kernel_rfl))⟩
 f27:=⟨Tryz.f254.name,by decide,Tryz.func254.trans (congrArg some (by kernel_rfl))⟩
 f28:=Tryz.func236.trans (congrArg some (by kernel_rfl))
 f29:=Tryz.func155.trans (congrArg some (by kernel_rfl))
 f46:=⟨Tryz.f286.name,by decide,Tryz.func286.trans (congrArg some (by kernel_rfl))⟩
 f47:=Tryz.func279.trans (congrArg some (by kernel_rfl))
 f48:=Tryz.func280.trans (congrArg some (by kernel_rfl))
 f49:=⟨Tryz.f287.name,by decide,Tryz.func287.trans (congrArg some (by kernel_rfl))⟩
 f50:=⟨Tryz.f288.name,by decide,Tryz.func288.trans (congrArg some (by kernel_rfl))⟩
 f57:=⟨Tryz.f300.name,by decide,Tryz.func300.trans (congrArg some (by kernel_rfl))⟩
 t0:=Tryz.underlying0
 a0:=Tryz.isAgg0
 z0:=Tryz.sizeOf0
 v0:=Tryz.zeroValue0
 t3:=Tryz.underlying3
 a3:=Tryz.isAgg3
 z3:=Tryz.sizeOf3
 v3:=Tryz.zeroValue3
 t4:=Tryz.underlying4
 a4:=Tryz.isAgg4
 z4:=Tryz.sizeOf4
 v4:=Tryz.zeroValue4
 t5:=Tryz.underlying5
 a5:=Tryz.isAgg5
 z5:=Tryz.sizeOf5
 v5:=Tryz.zeroValue5
 t9:=Tryz.underlying9
 a9:=Tryz.isAgg9
 z9:=Tryz.sizeOf9
 v9:=Tryz.zeroValue9
 t22:=Tryz.underlying126
 a22:=Tryz.isAgg126
 z22:=Tryz.sizeOf126
 v22:=Tryz.zeroValue126
 t25:=Tryz.underlying206
 a25:=Tryz.isAgg206
 z25:=Tryz.sizeOf206
 v25:=Tryz.zeroValue206
 t39:=Tryz.underlying258
 a39:=Tryz.isAgg258
 z39:=Tryz.sizeOf258
 v39:=Tryz.zeroValue258
 t45:=Tryz.underlying301
 a45:=Tryz.isAgg301
 z45:=Tryz.sizeOf301
 v45:=Tryz.zeroValue301
 t46:=Tryz.underlying302
 a46:=Tryz.isAgg302
 z46:=Tryz.sizeOf302
 v46:=Tryz.zeroValue302
 t50:=Tryz.underlying174
 a50:=Tryz.isAgg174
 z50:=Tryz.sizeOf174
 v50:=Tryz.zeroValue174
 t53:=Tryz.underlying308
 a53:=Tryz.isAgg308
 z53:=Tryz.sizeOf308
 v53:=Tryz.zeroValue308
 t55:=Tryz.underlying241
 a55:=Tryz.isAgg241
 z55:=Tryz.sizeOf241
 v55:=Tryz.zeroValue241
 t66:=Tryz.underlying335
 a66:=Tryz.isAgg335
 z66:=Tryz.sizeOf335
 v66:=Tryz.zeroValue335
 t70:=Tryz.underlying109
 a70:=Tryz.isAgg109
 z70:=Tryz.sizeOf109
 v70:=Tryz.zeroValue109
 t76:=Tryz.underlying349
 a76:=Tryz.isAgg349
 z76:=Tryz.sizeOf349
 v76:=Tryz.zeroValue349
 t77:=Tryz.underlying167
 a77:=Tryz.isAgg167
 z77:=Tryz.sizeOf167
 v77:=Tryz.zeroValue167 }
def kUa:Go.Shelf.Ren:=⟨fun|6=>99|15=>175|14=>174|28=>236|29=>155|20=>228|21=>229|22=>230|23=>231|24=>232|25=>233|26=>234|27=>235|46=>278|47=>279|48=>280|49=>281|50=>282|57=>298|n=>n,fun|22=>92|24=>90|25=>173|3=>3|39=>258|0=>0|53=>308|55=>241|4=>4|46=>302|45=>301|50=>174|5=>5|9=>9|66=>335|70=>109|76=>349|77=>167|n=>n,fun|n=>n⟩
theorem j0a:Go.Proofs.SlLaysF0.n6 Tryz.prog kUa:={
 mixed:=by kernel_rfl
 f6:=⟨Tryz.f99.name,by decide,Tryz.func99.trans (congrArg some (by kernel_rfl))⟩
 f14:=⟨Tryz.f174.name,by decide,Tryz.func174.trans (congrArg some (by kernel_rfl))⟩
 f15:=Tryz.func175.trans (congrArg some (by kernel_rfl))
 f20:=⟨Tryz.f228.name,by decide,Tryz.func228.trans (congrArg some (by kernel_rfl))⟩
 f21:=⟨Tryz.f229.name,by decide,Tryz.func229.trans (congrArg some (by kernel_rfl))⟩
 f22:=⟨Tryz.f230.name,by decide,Tryz.func230.trans (congrArg some (by kernel_rfl))⟩
 f23:=⟨Tryz.f231.name,by decide,Tryz.func231.trans (congrArg some (by kernel_rfl))⟩
 f24:=⟨Tryz.f232.name,by decide,Tryz.func232.trans (congrArg some (by kernel_rfl))⟩
 f25:=⟨Tryz.f233.name,by decide,Tryz.func233.trans (congrArg some (by kernel_rfl))⟩
 f26:=⟨Tryz.f234.name,by decide,Tryz.func234.trans (congrArg some (by kernel_rfl))⟩
 f27:=⟨Tryz.f235.name,by decide,Tryz.func235.trans (congrArg some (by kernel_rfl))⟩
 f28:=Tryz.func236.trans (congrArg some (by kernel_rfl))
 f29:=Tryz.func155.trans (congrArg some (by kernel_rfl))
 f46:=⟨Tryz.f278.name,by decide,Tryz.func278.trans (congrArg some (by kernel_rfl))⟩
 f47:=Tryz.func279.trans (congrArg some (by kernel_rfl))
 f48:=Tryz.func280.trans (congrArg some (by kernel_rfl))
 f49:=⟨Tryz.f281.name,by decide,Tryz.func281.trans (congrArg some (by kernel_rfl))⟩
 f50:=⟨Tryz.f282.name,by decide,Tryz.func282.trans (congrArg some (by kernel_rfl))⟩
 f57:=⟨Tryz.f298.name,by decide,Tryz.func298.trans (congrArg some (by kernel_rfl))⟩
 t0:=Tryz.underlying0
 a0:=Tryz.isAgg0
 z0:=Tryz.sizeOf0
 v0:=Tryz.zeroValue0
 t3:=Tryz.underlying3
 a3:=Tryz.isAgg3
 z3:=Tryz.sizeOf3
 v3:=Tryz.zeroValue3
 t4:=Tryz.underlying4
 a4:=Tryz.isAgg4
 z4:=Tryz.sizeOf4
 v4:=Tryz.zeroValue4
 t5:=Tryz.underlying5
 a5:=Tryz.isAgg5
 z5:=Tryz.sizeOf5
 v5:=Tryz.zeroValue5
 t9:=Tryz.underlying9
 a9:=Tryz.isAgg9
 z9:=Tryz.sizeOf9
 v9:=Tryz.zeroValue9
 t22:=Tryz.underlying92
 a22:=Tryz.isAgg92
 z22:=Tryz.sizeOf92
 v22:=Tryz.zeroValue92
 t25:=Tryz.underlying173
 a25:=Tryz.isAgg173
 z25:=Tryz.sizeOf173
 v25:=Tryz.zeroValue173
 t39:=Tryz.underlying258
 a39:=Tryz.isAgg258
 z39:=Tryz.sizeOf258
 v39:=Tryz.zeroValue258
 t45:=Tryz.underlying301
 a45:=Tryz.isAgg301
 z45:=Tryz.sizeOf301
 v45:=Tryz.zeroValue301
 t46:=Tryz.underlying302
 a46:=Tryz.isAgg302
 z46:=Tryz.sizeOf302
 v46:=Tryz.zeroValue302
 t50:=Tryz.underlying174
 a50:=Tryz.isAgg174
 z50:=Tryz.sizeOf174
 v50:=Tryz.zeroValue174
 t53:=Tryz.underlying308
 a53:=Tryz.isAgg308
 z53:=Tryz.sizeOf308
 v53:=Tryz.zeroValue308
 t55:=Tryz.underlying241
 a55:=Tryz.isAgg241
 z55:=Tryz.sizeOf241
 v55:=Tryz.zeroValue241
 t66:=Tryz.underlying335
 a66:=Tryz.isAgg335
 z66:=Tryz.sizeOf335
 v66:=Tryz.zeroValue335
 t70:=Tryz.underlying109
 a70:=Tryz.isAgg109
 z70:=Tryz.sizeOf109
 v70:=Tryz.zeroValue109
 t76:=Tryz.underlying349
 a76:=Tryz.isAgg349
 z76:=Tryz.sizeOf349
 v76:=Tryz.zeroValue349
 t77:=Tryz.underlying167
 a77:=Tryz.isAgg167
 z77:=Tryz.sizeOf167
 v77:=Tryz.zeroValue167 }
end Go.Proofs.YtigdlmpjijhpaaaGreat.Ax
namespace Go.Proofs.YtigdlmpjijhpaaaGreat.Ax
open Go Go.RowKit
section
variable {P:Program} {ops:Array Oper}
theorem wOa{J:(Nat->Bool)->Act->World->Prop}{Q:Exit->Act->World->Prop}(d:Zu ops 0 ops.toList=true)(H:∀(i:Nat) (o:Oper),ops[i]? =some o->o.guard=none)
  (step:∀(i:Nat) (o:Oper) (S:Nat->Bool) (a:Act) (w:World),ops[i]? =some o->S i=false->(∀j∈xl o,S j=true)->J S a w->∀K:Act->World->Prop,(∀z w',J (λm=>if m=i then true else S m) z w'->K z w')->o.wp P a w K Q)
  (fin:∀S a w,(∀i,i<ops.size->S i=true)->J S a w->Q .normal a w):
  ∀(b:Nat) (listed:Array Bool),listed.size=ops.size->((List.range ops.size).filter λi=> !listed.getD i false).length<=b->∀ {w:World} {a:Act},J (λi=>listed.getD i false) a w->wpAny P .any ops Q b listed a w:=by
 have same:∀(listed:Array Bool) (i:Nat),listed.size=ops.size->i<ops.size->listed.getD i true=listed.getD i false:=λlisted i c hi=>by
  rw[zt,zt,zW (by omega)]
  rfl
 have all:∀listed:Array Bool,listed.size=ops.size->Region.ready .any ops listed=[]->∀i,i<ops.size->listed.getD i false=true:=by
  intro listed c u i hi
  cases C:listed.getD i false
  ·exfalso
   obtain⟨n,⟨q,A⟩,h⟩:=least (J:=λn=>n<ops.size/\listed.getD n false=false) ⟨i,hi,C⟩
   have:n∈Region.ready .any ops listed:=Zx q (by rw[same listed n c q];exact A) (zW q) λj I=>by
    have s:=yE ops.toList 0 d n ops[n] (by simp[q]) j I
    rw[Nat.zero_add] at s
    cases t:listed.getD j false
    ·have:=h j ⟨by omega,t⟩
     omega
    ·rfl
   rw[u] at this
   cases this
  ·rfl
 intro b
 induction b with
 | zero=>
   intro listed c f w a k
   have D:∀i,i<ops.size->listed.getD i false=true:=λi hi=>by
    cases C:listed.getD i false
    ·have:i∈(List.range ops.size).filter λi=> !listed.getD i false:=qq.2 ⟨qT.2 hi,by simp[C]⟩
     have h0:((List.range ops.size).filter λi=> !listed.getD i false)=[]:=zC (by omega)
     rw[h0] at this
     cases this
    ·rfl
   refine⟨?_,fin _ _ _ D k⟩
   rw[List.eq_nil_iff_forall_not_mem]
   intro i hi
   obtain⟨g,r,_⟩:=jR hi
   rw[same listed i c g,D i g] at r
   cases r
 | succ b G=>
   intro listed c f w a k
   refine⟨λu=>fin _ _ _ (all listed c u) k,λi hi=>?_⟩
   obtain⟨g,r,o,y,F⟩:=jR hi
   have l:listed.getD i false=false:=by rw[<-same listed i c g];exact r
   unfold wpOp
   simp only[y]
   rw[if_pos (by simp[Region.wanted,H i o y])]
   refine .inl (step i o _ a w y l F k _ λz w' k'=>?_)
   refine G _ (by simp[c]) ?_ ?_
   ·have E:((List.range ops.size).filter λm=> !(listed.setIfInBounds i true).getD m false).length<((List.range ops.size).filter λm=> !listed.getD m false).length:=by
     have e:((List.range ops.size).filter λm=> !(listed.setIfInBounds i true).getD m false)=((List.range ops.size).filter λm=> !listed.getD m false).filter λm=> !(m==i):=by
      rw[List.filter_filter]
      refine List.filter_congr λm _=>?_
      rw[Qf (by omega)]
      by_cases e:m=i
      ·simp[e]
      ·simp[e]
     rw[e]
     have p:i∈(List.range ops.size).filter λm=> !listed.getD m false:=qq.2 ⟨qT.2 g,by rw[l];rfl⟩
     have B:=qo (λm=> !(m==i)) ((List.range ops.size).filter λm=> !listed.getD m false)
     rcases Nat.lt_or_ge ((List.filter (λm=> !(m==i)) ((List.range ops.size).filter λm=> !listed.getD m false)).length) ((List.range ops.size).filter λm=> !listed.getD m false).length with v|x
     ·exact v
     ·have:=List.filter_eq_self.1 ((List.filter_sublist).eq_of_length (Nat.le_antisymm B x)) i p
      simp at this
    omega
   ·have:(λm=>(listed.setIfInBounds i true).getD m false)=λm=>if m=i then true else listed.getD m false:=by
     funext m
     rw[Qf (by omega)]
    rw[this]
    exact k'
theorem zcb{id:Nat}{a:Act}{w:World}{Q:Exit->Act->World->Prop}(d:P.follows .mixedOrders=true)(b:Zu ops 0 ops.toList=true)(e:∀(i:Nat) (o:Oper),ops[i]? =some o->o.guard=none)(J:(Nat->Bool)->Act->World->Prop)(h0:J (λ_=>false) a { w with drawn:=w.drawn+1 })
  (step:∀(i:Nat) (o:Oper) (S:Nat->Bool) (a:Act) (w:World),ops[i]? =some o->S i=false->(∀j∈xl o,S j=true)->J S a w->∀K:Act->World->Prop,(∀c w',J (λm=>if m=i then true else S m) c w'->K c w')->o.wp P a w K Q)
  (fin:∀S a w,(∀i,i<ops.size->S i=true)->J S a w->Q .normal a w):(Code.region id ops true).wp P Q a w:=by
 refine wp_region_any d (wOa b e step fin ops.size (Array.replicate ops.size false) (by simp) ?_ ?_)
 ·have:=qo (λi=> !(Array.replicate ops.size false).getD i false) (List.range ops.size)
  rw[xi] at this
  exact this
 ·have:(λi=>(Array.replicate ops.size false).getD i false)=λ_=>false:=by
   funext i
   rw[zt,Array.getElem?_replicate]
   split<;>rfl
  rw[this]
  exact h0
theorem kT{o:Oper}{a:Act}{w w':World}{v:Value}{K:Act->World->Prop}{Q:Exit->Act->World->Prop}(h:(execOp a.eval o).run P w= .ok (.value v) w')(k:K (a.put o.dst v) w'):o.wp P a w K Q:=by
 unfold Oper.wp
 rw[h]
 exact k
theorem VV{o:Oper}{a:Act}{w:World}{f:FuncId}{args:Array Value}{R:Ending->World->Prop}{K:Act->World->Prop}{Q:Exit->Act->World->Prop}(h:(execOp a.eval o).run P w= .ok (.enter f args) w)(c:Calls P f args w R)(k:∀e w',R e w'->∃v,e= .returned v/\K (a.put o.dst v) w'):o.wp P a w K Q:=by
 unfold Oper.wp
 rw[h]
 refine Calls.mono c λe w' q=>?_
 obtain⟨v,rfl,b⟩:=k e w' q
 exact b
end
end Go.Proofs.YtigdlmpjijhpaaaGreat.Ax
namespace Go.Proofs.YtigdlmpjijhpaaaGreat.Ax
open Go Go.Proofs Go.Shelf
def kZa:Go.Shelf.Ren:=⟨fun|53=>166|64=>175|63=>222|78=>236|79=>155|70=>268|71=>269|72=>270|73=>271|74=>272|75=>273|59=>274|76=>275|77=>276|88=>294|89=>279|90=>280|91=>295|92=>296|68=>195|96=>303|n=>n,fun|22=>27|23=>3|3=>3|51=>258|0=>0|67=>308|69=>241|4=>4|61=>302|60=>301|44=>174|5=>5|9=>9|75=>335|79=>109|83=>349|84=>167|n=>n,fun|n=>n⟩
theorem Wba:Go.Proofs.SlLaysN.n53 Tryz.prog kZa:={
 mixed:=by kernel_rfl
 f53:=⟨Tryz.f166.name,by decide,Tryz.func166.trans (congrArg some (by kernel_rfl))⟩
 f59:=⟨Tryz.f274.name,by decide,Tryz.func274.trans (congrArg some (by kernel_rfl))⟩
 f63:=⟨Tryz.f222.name,by decide,Tryz.func222.trans (congrArg some (by kernel_rfl))⟩
 f64:=Tryz.func175.trans (congrArg some (by kernel_rfl))
 f68:=⟨Tryz.f195.name,by decide,Tryz.func195.trans (congrArg some (by kernel_rfl))⟩
 f70:=⟨Tryz.f268.name,by decide,Tryz.func268.trans (congrArg some (by kernel_rfl))⟩
 f71:=⟨Tryz.f269.name,by decide,Tryz.func269.trans (congrArg some (by kernel_rfl))⟩
 f72:=⟨Tryz.f270.name,by decide,Tryz.func270.trans (congrArg some (by kernel_rfl))⟩
 f73:=⟨Tryz.f271.name,by decide,Tryz.func271.trans (congrArg some (by kernel_rfl))⟩
 f74:=⟨Tryz.f272.name,by decide,Tryz.func272.trans (congrArg some (by kernel_rfl))⟩
 f75:=⟨Tryz.f273.name,by decide,Tryz.func273.trans (congrArg some (by kernel_rfl))⟩
 f76:=⟨Tryz.f275.name,by decide,Tryz.func275.trans (congrArg some (by kernel_rfl))⟩
 f77:=⟨Tryz.f276.name,by decide,Tryz.func276.trans (congrArg some (by kernel_rfl))⟩
 f78:=Tryz.func236.trans (congrArg some (by kernel_rfl))
 f79:=Tryz.func155.trans (congrArg some (by kernel_rfl))
 f88:=⟨Tryz.f294.name,by decide,Tryz.func294.trans (congrArg some (by kernel_rfl))⟩
 f89:=Tryz.func279.trans (congrArg some (by kernel_rfl))
 f90:=Tryz.func280.trans (congrArg some (by kernel_rfl))
 f91:=⟨Tryz.f295.name,by decide,Tryz.func295.trans (congrArg some (by kernel_rfl))⟩
 f92:=⟨Tryz.f296.name,by decide,Tryz.func296.trans (congrArg some (by kernel_rfl))⟩
 f96:=⟨Tryz.f303.name,by decide,Tryz.func303.trans (congrArg some (by kernel_rfl))⟩
 t0:=Tryz.underlying0
 a0:=Tryz.isAgg0
 z0:=Tryz.sizeOf0
 v0:=Tryz.zeroValue0
 t3:=Tryz.underlying3
 a3:=Tryz.isAgg3
 z3:=Tryz.sizeOf3
 v3:=Tryz.zeroValue3
 t4:=Tryz.underlying4
 a4:=Tryz.isAgg4
 z4:=Tryz.sizeOf4
 v4:=Tryz.zeroValue4
 t5:=Tryz.underlying5
 a5:=Tryz.isAgg5
 z5:=Tryz.sizeOf5
 v5:=Tryz.zeroValue5
 t9:=Tryz.underlying9
 a9:=Tryz.isAgg9
 z9:=Tryz.sizeOf9
 v9:=Tryz.zeroValue9
 t22:=Tryz.underlying27
 a22:=Tryz.isAgg27
 z22:=Tryz.sizeOf27
 v22:=Tryz.zeroValue27
 t23:=Tryz.underlying3
 a23:=Tryz.isAgg3
 z23:=Tryz.sizeOf3
 v23:=Tryz.zeroValue3
 t44:=Tryz.underlying174
 a44:=Tryz.isAgg174
 z44:=Tryz.sizeOf174
 v44:=Tryz.zeroValue174
 t51:=Tryz.underlying258
 a51:=Tryz.isAgg258
 z51:=Tryz.sizeOf258
 v51:=Tryz.zeroValue258
 t60:=Tryz.underlying301
 a60:=Tryz.isAgg301
 z60:=Tryz.sizeOf301
 v60:=Tryz.zeroValue301
 t61:=Tryz.underlying302
 a61:=Tryz.isAgg302
 z61:=Tryz.sizeOf302
 v61:=Tryz.zeroValue302
 t67:=Tryz.underlying308
 a67:=Tryz.isAgg308
 z67:=Tryz.sizeOf308
 v67:=Tryz.zeroValue308
 t69:=Tryz.underlying241
 a69:=Tryz.isAgg241
 z69:=Tryz.sizeOf241
 v69:=Tryz.zeroValue241
 t75:=Tryz.underlying335
 a75:=Tryz.isAgg335
 z75:=Tryz.sizeOf335
 v75:=Tryz.zeroValue335
 t79:=Tryz.underlying109
 a79:=Tryz.isAgg109
 z79:=Tryz.sizeOf109
 v79:=Tryz.zeroValue109
 t83:=Tryz.underlying349
 a83:=Tryz.isAgg349
 z83:=Tryz.sizeOf349
 v83:=Tryz.zeroValue349
 t84:=Tryz.underlying167
 a84:=Tryz.isAgg167
 z84:=Tryz.sizeOf167
 v84:=Tryz.zeroValue167 }
end Go.Proofs.YtigdlmpjijhpaaaGreat.Ax
namespace Go.Proofs.YtigdlmpjijhpaaaGreat.Ax
open Go Go.Proofs Go.RowKit
theorem Vb(w:World):(Instr.build 113 #[]).run Tryz.prog w= .ok (.agg #[]) w:=by
 simp[go_sem,Instr.build]
theorem Vc(w:World):(Instr.makeInterface 113 (.agg #[])).run Tryz.prog w= .ok (.iface 113 (.agg #[])) w:=by
 simp[go_sem,Instr.makeInterface]
