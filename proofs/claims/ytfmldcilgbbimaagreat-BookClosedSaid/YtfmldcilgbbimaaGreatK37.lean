/-
  Joined.
-/
import Derived.Test.YtfmldcilgbbimaaGreatK22
import Derived.Shelf.SlSortCmp.WholeK
import Derived.Shelf.SlSortCmp.NoneTotal
import Derived.Shelf.SlicesG.Cmp
import Derived.Test.YtfmldcilgbbimaaGreatK09
import Derived.Shelf.SortG.Plain
set_option linter.unusedSimpArgs false
set_option linter.unusedVariables false
namespace Go.Proofs.YtfmldcilgbbimaaGreat.Ax
open Go Go.Proofs Go.Shelf
def zLa:Go.Shelf.Ren:=⟨fun | 6=>106 | 15=>158 | 14=>176 | 28=>214 | 29=>141 | 20=>225 | 21=>226 | 22=>227 | 23=>228 | 24=>229 | 25=>230 | 26=>231 | 27=>232 | 46=>264 | 47=>257 | 48=>258 | 49=>265 | 50=>266 | 57=>277 | n=>n,fun | 22=>117 | 24=>175 | 25=>187 | 3=>3 | 39=>234 | 0=>0 | 53=>281 | 55=>221 | 4=>4 | 46=>274 | 45=>273 | 50=>278 | 5=>5 | 9=>9 | 66=>309 | 70=>101 | 76=>322 | 77=>156 | n=>n,fun | n=>n⟩
theorem Ws:Go.Proofs.SlLaysF0.n6 Tryz.prog zLa:={
 mixed:=by kernel_rfl
 f6:=⟨Tryz.f106.name,by decide,Tryz.func106.trans (congrArg some (by kernel_rfl))⟩
 f14:=⟨Tryz.f176.name,by decide,Tryz.func176.trans (congrArg some (by kernel_rfl))⟩
 f15:=Tryz.func158.trans (congrArg some (by kernel_rfl))
 f20:=⟨Tryz.f225.name,by decide,Tryz.func225.trans (congrArg some (by kernel_rfl))⟩
 f21:=⟨Tryz.f226.name,by decide,Tryz.func226.trans (congrArg some (by kernel_rfl))⟩
 f22:=⟨Tryz.f227.name,by decide,Tryz.func227.trans (congrArg some (by kernel_rfl))⟩
 f23:=⟨Tryz.f228.name,by decide,Tryz.func228.trans (congrArg some (by kernel_rfl))⟩
 f24:=⟨Tryz.f229.name,by decide,Tryz.func229.trans (congrArg some (by kernel_rfl))⟩
 f25:=⟨Tryz.f230.name,by decide,Tryz.func230.trans (congrArg some (by kernel_rfl))⟩
 f26:=⟨Tryz.f231.name,by decide,Tryz.func231.trans (congrArg some (by kernel_rfl))⟩
 f27:=⟨Tryz.f232.name,by decide,Tryz.func232.trans (congrArg some (by kernel_rfl))⟩
 f28:=Tryz.func214.trans (congrArg some (by kernel_rfl))
 f29:=Tryz.func141.trans (congrArg some (by kernel_rfl))
 f46:=⟨Tryz.f264.name,by decide,Tryz.func264.trans (congrArg some (by kernel_rfl))⟩
 f47:=Tryz.func257.trans (congrArg some (by kernel_rfl))
 f48:=Tryz.func258.trans (congrArg some (by kernel_rfl))
 f49:=⟨Tryz.f265.name,by decide,Tryz.func265.trans (congrArg some (by kernel_rfl))⟩
 f50:=⟨Tryz.f266.name,by decide,Tryz.func266.trans (congrArg some (by kernel_rfl))⟩
 f57:=⟨Tryz.f277.name,by decide,Tryz.func277.trans (congrArg some (by kernel_rfl))⟩
 t0:=Tryz.underlying0
 a0:=Tryz.isAgg0
 z0:=Tryz.sizeOf0
 v0:=Tryz.zeroValue0
 t3:=Tryz.underlying3
 a3:=Tryz.isAgg3
 z3:=Tryz.sizeOf3
 v3:=Tryz.zeroValue3
 t4:=Tryz.underlying4
 a4:=Tryz.isAgg4
 z4:=Tryz.sizeOf4
 v4:=Tryz.zeroValue4
 t5:=Tryz.underlying5
 a5:=Tryz.isAgg5
 z5:=Tryz.sizeOf5
 v5:=Tryz.zeroValue5
 t9:=Tryz.underlying9
 a9:=Tryz.isAgg9
 z9:=Tryz.sizeOf9
 v9:=Tryz.zeroValue9
 t22:=Tryz.underlying117
 a22:=Tryz.isAgg117
 z22:=Tryz.sizeOf117
 v22:=Tryz.zeroValue117
 t25:=Tryz.underlying187
 a25:=Tryz.isAgg187
 z25:=Tryz.sizeOf187
 v25:=Tryz.zeroValue187
 t39:=Tryz.underlying234
 a39:=Tryz.isAgg234
 z39:=Tryz.sizeOf234
 v39:=Tryz.zeroValue234
 t45:=Tryz.underlying273
 a45:=Tryz.isAgg273
 z45:=Tryz.sizeOf273
 v45:=Tryz.zeroValue273
 t46:=Tryz.underlying274
 a46:=Tryz.isAgg274
 z46:=Tryz.sizeOf274
 v46:=Tryz.zeroValue274
 t50:=Tryz.underlying278
 a50:=Tryz.isAgg278
 z50:=Tryz.sizeOf278
 v50:=Tryz.zeroValue278
 t53:=Tryz.underlying281
 a53:=Tryz.isAgg281
 z53:=Tryz.sizeOf281
 v53:=Tryz.zeroValue281
 t55:=Tryz.underlying221
 a55:=Tryz.isAgg221
 z55:=Tryz.sizeOf221
 v55:=Tryz.zeroValue221
 t66:=Tryz.underlying309
 a66:=Tryz.isAgg309
 z66:=Tryz.sizeOf309
 v66:=Tryz.zeroValue309
 t70:=Tryz.underlying101
 a70:=Tryz.isAgg101
 z70:=Tryz.sizeOf101
 v70:=Tryz.zeroValue101
 t76:=Tryz.underlying322
 a76:=Tryz.isAgg322
 z76:=Tryz.sizeOf322
 v76:=Tryz.zeroValue322
 t77:=Tryz.underlying156
 a77:=Tryz.isAgg156
 z77:=Tryz.sizeOf156
 v77:=Tryz.zeroValue156 }
def jOa:Go.Shelf.Ren:=⟨fun | 6=>92 | 15=>158 | 14=>157 | 28=>214 | 29=>141 | 20=>206 | 21=>207 | 22=>208 | 23=>209 | 24=>210 | 25=>211 | 26=>212 | 27=>213 | 46=>256 | 47=>257 | 48=>258 | 49=>259 | 50=>260 | 57=>275 | n=>n,fun | 22=>86 | 24=>89 | 25=>161 | 3=>3 | 39=>234 | 0=>0 | 53=>281 | 55=>221 | 4=>4 | 46=>274 | 45=>273 | 50=>278 | 5=>5 | 9=>9 | 66=>309 | 70=>101 | 76=>322 | 77=>156 | n=>n,fun | n=>n⟩
theorem zVa:Go.Proofs.SlLaysF0.n6 Tryz.prog jOa:={
 mixed:=by kernel_rfl
 f6:=⟨Tryz.f92.name,by decide,Tryz.func92.trans (congrArg some (by kernel_rfl))⟩
 f14:=⟨Tryz.f157.name,by decide,Tryz.func157.trans (congrArg some (by kernel_rfl))⟩
 f15:=Tryz.func158.trans (congrArg some (by kernel_rfl))
 f20:=⟨Tryz.f206.name,by decide,Tryz.func206.trans (congrArg some (by kernel_rfl))⟩
 f21:=⟨Tryz.f207.name,by decide,Tryz.func207.trans (congrArg some (by kernel_rfl))⟩
 f22:=⟨Tryz.f208.name,by decide,Tryz.func208.trans (congrArg some (by kernel_rfl))⟩
 f23:=⟨Tryz.f209.name,by decide,Tryz.func209.trans (congrArg some (by kernel_rfl))⟩
 f24:=⟨Tryz.f210.name,by decide,Tryz.func210.trans (congrArg some (by kernel_rfl))⟩
 f25:=⟨Tryz.f211.name,by decide,Tryz.func211.trans (congrArg some (by kernel_rfl))⟩
 f26:=⟨Tryz.f212.name,by decide,Tryz.func212.trans (congrArg some (by kernel_rfl))⟩
 f27:=⟨Tryz.f213.name,by decide,Tryz.func213.trans (congrArg some (by kernel_rfl))⟩
 f28:=Tryz.func214.trans (congrArg some (by kernel_rfl))
 f29:=Tryz.func141.trans (congrArg some (by kernel_rfl))
 f46:=⟨Tryz.f256.name,by decide,Tryz.func256.trans (congrArg some (by kernel_rfl))⟩
 f47:=Tryz.func257.trans (congrArg some (by kernel_rfl))
 f48:=Tryz.func258.trans (congrArg some (by kernel_rfl))
 f49:=⟨Tryz.f259.name,by decide,Tryz.func259.trans (congrArg some (by kernel_rfl))⟩
 f50:=⟨Tryz.f260.name,by decide,Tryz.func260.trans (congrArg some (by kernel_rfl))⟩
 f57:=⟨Tryz.f275.name,by decide,Tryz.func275.trans (congrArg some (by kernel_rfl))⟩
 t0:=Tryz.underlying0
 a0:=Tryz.isAgg0
 z0:=Tryz.sizeOf0
 v0:=Tryz.zeroValue0
 t3:=Tryz.underlying3
 a3:=Tryz.isAgg3
 z3:=Tryz.sizeOf3
 v3:=Tryz.zeroValue3
 t4:=Tryz.underlying4
 a4:=Tryz.isAgg4
 z4:=Tryz.sizeOf4
 v4:=Tryz.zeroValue4
 t5:=Tryz.underlying5
 a5:=Tryz.isAgg5
 z5:=Tryz.sizeOf5
 v5:=Tryz.zeroValue5
 t9:=Tryz.underlying9
 a9:=Tryz.isAgg9
 z9:=Tryz.sizeOf9
 v9:=Tryz.zeroValue9
 t22:=Tryz.underlying86
 a22:=Tryz.isAgg86
 z22:=Tryz.sizeOf86
 v22:=Tryz.zeroValue86
 t25:=Tryz.underlying161
 a25:=Tryz.isAgg161
 z25:=Tryz.sizeOf161
 v25:=Tryz.zeroValue161
 t39:=Tryz.underlying234
 a39:=Tryz.isAgg234
 z39:=Tryz.sizeOf234
 v39:=Tryz.zeroValue234
 t45:=Tryz.underlying273
 a45:=Tryz.isAgg273
 z45:=Tryz.sizeOf273
 v45:=Tryz.zeroValue273
 t46:=Tryz.underlying274
 a46:=Tryz.isAgg274
 z46:=Tryz.sizeOf274
 v46:=Tryz.zeroValue274
 t50:=Tryz.underlying278
 a50:=Tryz.isAgg278
 z50:=Tryz.sizeOf278
 v50:=Tryz.zeroValue278
 t53:=Tryz.underlying281
 a53:=Tryz.isAgg281
 z53:=Tryz.sizeOf281
 v53:=Tryz.zeroValue281
 t55:=Tryz.underlying221
 a55:=Tryz.isAgg221
 z55:=Tryz.sizeOf221
 v55:=Tryz.zeroValue221
 t66:=Tryz.underlying309
 a66:=Tryz.isAgg309
 z66:=Tryz.sizeOf309
 v66:=Tryz.zeroValue309
 t70:=Tryz.underlying101
 a70:=Tryz.isAgg101
 z70:=Tryz.sizeOf101
 v70:=Tryz.zeroValue101
 t76:=Tryz.underlying322
 a76:=Tryz.isAgg322
 z76:=Tryz.sizeOf322
 v76:=Tryz.zeroValue322
 t77:=Tryz.underlying156
 a77:=Tryz.isAgg156
 z77:=Tryz.sizeOf156
 v77:=Tryz.zeroValue156 }
end Go.Proofs.YtfmldcilgbbimaaGreat.Ax
namespace Go.Proofs.YtfmldcilgbbimaaGreat.Ax
open Go Go.RowKit
section
variable {P:Program} {ops:Array Oper}
theorem kua {J:(Nat->Bool)->Act->World->Prop} {Q:Exit->Act->World->Prop} (f:yw ops 0 ops.toList=true) (I:∀(i:Nat) (o:Oper),ops[i]? =some o->o.guard=none)
  (step:∀(i:Nat) (o:Oper) (S:Nat->Bool) (a:Act) (w:World),ops[i]? =some o->S i=false->(∀j∈xR o,S j=true)->J S a w->∀K:Act->World->Prop,(∀A w',J (λm=>if m=i then true else S m) A w'->K A w')->o.wp P a w K Q)
  (fin:∀S a w,(∀i,i<ops.size->S i=true)->J S a w->Q .normal a w):
  ∀(b:Nat) (listed:Array Bool),listed.size=ops.size->((List.range ops.size).filter λi=> !listed.getD i false).length<=b->∀ {w:World} {a:Act},J (λi=>listed.getD i false) a w->wpAny P .any ops Q b listed a w:=by
 have same:∀(listed:Array Bool) (i:Nat),listed.size=ops.size->i<ops.size->listed.getD i true=listed.getD i false:=λlisted i c d=>by
  rw[Array.getD_eq_getD_getElem?,Array.getD_eq_getD_getElem?,Array.getElem?_eq_getElem (by omega)]
  rfl
 have all:∀listed:Array Bool,listed.size=ops.size->Region.ready .any ops listed=[]->∀i,i<ops.size->listed.getD i false=true:=by
  intro listed c C i d
  cases x:listed.getD i false
  ·exfalso
   obtain ⟨n,⟨s,B⟩,g⟩:=least (J:=λn=>n<ops.size/\listed.getD n false=false) ⟨i,d,x⟩
   have:n∈Region.ready .any ops listed:=VC s (by rw[same listed n c s];exact B) (Array.getElem?_eq_getElem s) λj G=>by
    have v:=ym ops.toList 0 f n ops[n] (by simp[s]) j G
    rw[Nat.zero_add] at v
    cases z:listed.getD j false
    ·have:=g j ⟨by omega,z⟩
     omega
    ·rfl
   rw[C] at this
   cases this
  ·rfl
 intro b
 induction b with
 | zero=>
   intro listed c q w a k
   have E:∀i,i<ops.size->listed.getD i false=true:=λi d=>by
    cases x:listed.getD i false
    ·have:i∈(List.range ops.size).filter λi=> !listed.getD i false:=List.mem_filter.2 ⟨List.mem_range.2 d,by simp[x]⟩
     have h0:((List.range ops.size).filter λi=> !listed.getD i false)=[]:=List.eq_nil_of_length_eq_zero (by omega)
     rw[h0] at this
     cases this
    ·rfl
   refine ⟨?_,fin _ _ _ E k⟩
   rw[List.eq_nil_iff_forall_not_mem]
   intro i d
   obtain ⟨p,r,_⟩:=vp d
   rw[same listed i c p,E i p] at r
   cases r
 | succ b H=>
   intro listed c q w a k
   refine ⟨λC=>fin _ _ _ (all listed c C) k,λi d=>?_⟩
   obtain ⟨p,r,o,t,L⟩:=vp d
   have l:listed.getD i false=false:=by rw[<-same listed i c p];exact r
   unfold wpOp
   simp only[t]
   rw[if_pos (by simp[Region.wanted,I i o t])]
   refine .inl (step i o _ a w t l L k _ λA w' k'=>?_)
   refine H _ (by simp[c]) ?_ ?_
   ·have F:((List.range ops.size).filter λm=> !(listed.setIfInBounds i true).getD m false).length<((List.range ops.size).filter λm=> !listed.getD m false).length:=by
     have e:((List.range ops.size).filter λm=> !(listed.setIfInBounds i true).getD m false)=((List.range ops.size).filter λm=> !listed.getD m false).filter λm=> !(m==i):=by
      rw[List.filter_filter]
      refine List.filter_congr λm _=>?_
      rw[Z2 (by omega)]
      by_cases e:m=i
      ·simp[e]
      ·simp[e]
     rw[e]
     have h:i∈(List.range ops.size).filter λm=> !listed.getD m false:=List.mem_filter.2 ⟨List.mem_range.2 p,by rw[l];rfl⟩
     have y:=List.length_filter_le (λm=> !(m==i)) ((List.range ops.size).filter λm=> !listed.getD m false)
     rcases Nat.lt_or_ge ((List.filter (λm=> !(m==i)) ((List.range ops.size).filter λm=> !listed.getD m false)).length) ((List.range ops.size).filter λm=> !listed.getD m false).length with u | D
     ·exact u
     ·have:=List.filter_eq_self.1 ((List.filter_sublist).eq_of_length (Nat.le_antisymm y D)) i h
      simp at this
    omega
   ·have:(λm=>(listed.setIfInBounds i true).getD m false)=λm=>if m=i then true else listed.getD m false:=by
     funext m
     rw[Z2 (by omega)]
    rw[this]
    exact k'
theorem Vaa {id:Nat} {a:Act} {w:World} {Q:Exit->Act->World->Prop} (e:P.follows .mixedOrders=true) (b:yw ops 0 ops.toList=true) (d:∀(i:Nat) (o:Oper),ops[i]? =some o->o.guard=none) (J:(Nat->Bool)->Act->World->Prop) (h0:J (λ_=>false) a { w with drawn:=w.drawn+1 })
  (step:∀(i:Nat) (o:Oper) (S:Nat->Bool) (a:Act) (w:World),ops[i]? =some o->S i=false->(∀j∈xR o,S j=true)->J S a w->∀K:Act->World->Prop,(∀c w',J (λm=>if m=i then true else S m) c w'->K c w')->o.wp P a w K Q)
  (fin:∀S a w,(∀i,i<ops.size->S i=true)->J S a w->Q .normal a w):(Code.region id ops true).wp P Q a w:=by
 refine wp_region_any e (kua b d step fin ops.size (Array.replicate ops.size false) (by simp) ?_ ?_)
 ·have:=List.length_filter_le (λi=> !(Array.replicate ops.size false).getD i false) (List.range ops.size)
  rw[List.length_range] at this
  exact this
 ·have:(λi=>(Array.replicate ops.size false).getD i false)=λ_=>false:=by
   funext i
   rw[Array.getD_eq_getD_getElem?,Array.getElem?_replicate]
   split<;>rfl
  rw[this]
  exact h0
theorem kB {o:Oper} {a:Act} {w w':World} {v:Value} {K:Act->World->Prop} {Q:Exit->Act->World->Prop} (h:(execOp a.eval o).run P w= .ok (.value v) w') (k:K (a.put o.dst v) w'):o.wp P a w K Q:=by
 unfold Oper.wp
 rw[h]
 exact k
theorem Kj {o:Oper} {a:Act} {w:World} {f:FuncId} {args:Array Value} {R:Ending->World->Prop} {K:Act->World->Prop} {Q:Exit->Act->World->Prop} (h:(execOp a.eval o).run P w= .ok (.enter f args) w) (c:Calls P f args w R) (k:∀e w',R e w'->∃v,e= .returned v/\K (a.put o.dst v) w'):o.wp P a w K Q:=by
 unfold Oper.wp
 rw[h]
 refine Calls.mono c λe w' q=>?_
 obtain ⟨v,rfl,b⟩:=k e w' q
 exact b
end
end Go.Proofs.YtfmldcilgbbimaaGreat.Ax
namespace Go.Proofs.YtfmldcilgbbimaaGreat.Ax
open Go Go.Proofs Go.Shelf
def jSa:Go.Shelf.Ren:=⟨fun | 53=>151 | 64=>158 | 63=>204 | 78=>214 | 79=>141 | 70=>247 | 71=>248 | 72=>249 | 73=>250 | 74=>251 | 75=>252 | 59=>253 | 76=>254 | 77=>255 | 88=>272 | 89=>257 | 90=>258 | 91=>273 | 92=>274 | 68=>177 | 96=>280 | n=>n,fun | 22=>27 | 23=>3 | 3=>3 | 51=>234 | 0=>0 | 67=>281 | 69=>221 | 4=>4 | 61=>274 | 60=>273 | 44=>278 | 5=>5 | 9=>9 | 75=>309 | 79=>101 | 83=>322 | 84=>156 | n=>n,fun | n=>n⟩
theorem Xla:Go.Proofs.SlLaysN.n53 Tryz.prog jSa:={
 mixed:=by kernel_rfl
 f53:=⟨Tryz.f151.name,by decide,Tryz.func151.trans (congrArg some (by kernel_rfl))⟩
 f59:=⟨Tryz.f253.name,by decide,Tryz.func253.trans (congrArg some (by kernel_rfl))⟩
 f63:=⟨Tryz.f204.name,by decide,Tryz.func204.trans (congrArg some (by kernel_rfl))⟩
 f64:=Tryz.func158.trans (congrArg some (by kernel_rfl))
 f68:=⟨Tryz.f177.name,by decide,Tryz.func177.trans (congrArg some (by kernel_rfl))⟩
 f70:=⟨Tryz.f247.name,by decide,Tryz.func247.trans (congrArg some (by kernel_rfl))⟩
 f71:=⟨Tryz.f248.name,by decide,Tryz.func248.trans (congrArg some (by kernel_rfl))⟩
 f72:=⟨Tryz.f249.name,by decide,Tryz.func249.trans (congrArg some (by kernel_rfl))⟩
 f73:=⟨Tryz.f250.name,by decide,Tryz.func250.trans (congrArg some (by kernel_rfl))⟩
 f74:=⟨Tryz.f251.name,by decide,Tryz.func251.trans (congrArg some (by kernel_rfl))⟩
 f75:=⟨Tryz.f252.name,by decide,Tryz.func252.trans (congrArg some (by kernel_rfl))⟩
 f76:=⟨Tryz.f254.name,by decide,Tryz.func254.trans (congrArg some (by kernel_rfl))⟩
 f77:=⟨Tryz.f255.name,by decide,Tryz.func255.trans (congrArg some (by kernel_rfl))⟩
 f78:=Tryz.func214.trans (congrArg some (by kernel_rfl))
 f79:=Tryz.func141.trans (congrArg some (by kernel_rfl))
 f88:=⟨Tryz.f272.name,by decide,Tryz.func272.trans (congrArg some (by kernel_rfl))⟩
 f89:=Tryz.func257.trans (congrArg some (by kernel_rfl))
 f90:=Tryz.func258.trans (congrArg some (by kernel_rfl))
 f91:=⟨Tryz.f273.name,by decide,Tryz.func273.trans (congrArg some (by kernel_rfl))⟩
 f92:=⟨Tryz.f274.name,by decide,Tryz.func274.trans (congrArg some (by kernel_rfl))⟩
 f96:=⟨Tryz.f280.name,by decide,Tryz.func280.trans (congrArg some (by kernel_rfl))⟩
 t0:=Tryz.underlying0
 a0:=Tryz.isAgg0
 z0:=Tryz.sizeOf0
 v0:=Tryz.zeroValue0
 t3:=Tryz.underlying3
 a3:=Tryz.isAgg3
 z3:=Tryz.sizeOf3
 v3:=Tryz.zeroValue3
 t4:=Tryz.underlying4
 a4:=Tryz.isAgg4
 z4:=Tryz.sizeOf4
 v4:=Tryz.zeroValue4
 t5:=Tryz.underlying5
 a5:=Tryz.isAgg5
 z5:=Tryz.sizeOf5
 v5:=Tryz.zeroValue5
 t9:=Tryz.underlying9
 a9:=Tryz.isAgg9
 z9:=Tryz.sizeOf9
 v9:=Tryz.zeroValue9
 t22:=Tryz.underlying27
 a22:=Tryz.isAgg27
 z22:=Tryz.sizeOf27
 v22:=Tryz.zeroValue27
 t23:=Tryz.underlying3
 a23:=Tryz.isAgg3
 z23:=Tryz.sizeOf3
 v23:=Tryz.zeroValue3
 t44:=Tryz.underlying278
 a44:=Tryz.isAgg278
 z44:=Tryz.sizeOf278
 v44:=Tryz.zeroValue278
 t51:=Tryz.underlying234
 a51:=Tryz.isAgg234
 z51:=Tryz.sizeOf234
 v51:=Tryz.zeroValue234
 t60:=Tryz.underlying273
 a60:=Tryz.isAgg273
 z60:=Tryz.sizeOf273
 v60:=Tryz.zeroValue273
 t61:=Tryz.underlying274
 a61:=Tryz.isAgg274
 z61:=Tryz.sizeOf274
 v61:=Tryz.zeroValue274
 t67:=Tryz.underlying281
 a67:=Tryz.isAgg281
 z67:=Tryz.sizeOf281
 v67:=Tryz.zeroValue281
 t69:=Tryz.underlying221
 a69:=Tryz.isAgg221
 z69:=Tryz.sizeOf221
 v69:=Tryz.zeroValue221
 t75:=Tryz.underlying309
 a75:=Tryz.isAgg309
 z75:=Tryz.sizeOf309
 v75:=Tryz.zeroValue309
 t79:=Tryz.underlying101
 a79:=Tryz.isAgg101
 z79:=Tryz.sizeOf101
 v79:=Tryz.zeroValue101
 t83:=Tryz.underlying322
 a83:=Tryz.isAgg322
 z83:=Tryz.sizeOf322
 v83:=Tryz.zeroValue322
 t84:=Tryz.underlying156
 a84:=Tryz.isAgg156
 z84:=Tryz.sizeOf156
 v84:=Tryz.zeroValue156 }
end Go.Proofs.YtfmldcilgbbimaaGreat.Ax
