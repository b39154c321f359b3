import Derived.Test.YtigdlmpjijhpaaaGreatKA
import Derived.Test.YtigdlmpjijhpaaaGreatK11
import Derived.Shelf.SlSortCmp.WholeK
import Derived.Shelf.SlSortCmp.NoneTotal
import Derived.Shelf.SlicesG.Cmp
import Derived.Test.YtigdlmpjijhpaaaGreatK20
import Derived.Test.YtigdlmpjijhpaaaGreatK21
set_option linter.all false
namespace Go.Proofs.YtigdlmpjijhpaaaGreat.Ax
open Go Go.Proofs Go.Shelf
def jUa:Go.Shelf.Ren:=⟨fun|6=>152|15=>175|14=>220|28=>236|29=>155|20=>260|21=>261|22=>262|23=>263|24=>264|25=>265|26=>266|27=>267|46=>291|47=>279|48=>280|49=>292|50=>293|57=>302|n=>n,fun|22=>55|24=>143|25=>238|3=>3|39=>258|0=>0|53=>308|55=>241|4=>4|46=>302|45=>301|50=>174|5=>5|9=>9|66=>335|70=>109|76=>349|77=>167|n=>n,fun|n=>n⟩
theorem kfa:Go.Proofs.SlLaysF0.n6 Tryz.prog jUa:={
 mixed:=by kernel_rfl
 f6:=⟨Tryz.f152.name,by decide,Tryz.func152.trans (congrArg some (by kernel_rfl))⟩
 f14:=⟨Tryz.f220.name,by decide,Tryz.func220.trans (congrArg some (by kernel_rfl))⟩
 f15:=Tryz.func175.trans (congrArg some (by kernel_rfl))
 f20:=⟨Tryz.f260.name,by decide,Tryz.func260.trans (congrArg some (by kernel_rfl))⟩
 f21:=⟨Tryz.f261.name,by decide,Tryz.func261.trans (congrArg some (by kernel_rfl))⟩
 f22:=⟨Tryz.f262.name,by decide,Tryz.func262.trans (congrArg some (by kernel_rfl))⟩
 f23:=⟨Tryz.f263.name,by decide,Tryz.func263.trans (congrArg some (by kernel_rfl))⟩
 f24:=⟨Tryz.f264.name,by decide,Tryz.func264.trans (congrArg some (by kernel_rfl))⟩
 f25:=⟨Tryz.f265.name,by decide,Tryz.func265.trans (congrArg some (by kernel_rfl))⟩
 f26:=⟨Tryz.f266.name,by decide,Tryz.func266.trans (congrArg some (by kernel_rfl))⟩
 f27:=⟨Tryz.f267.name,by decide,Tryz.func267.trans (congrArg some (by kernel_rfl))⟩
 f28:=Tryz.func236.trans (congrArg some (by kernel_rfl))
 f29:=Tryz.func155.trans (congrArg some (by kernel_rfl))
 f46:=⟨Tryz.f291.name,by decide,Tryz.func291.trans (congrArg some (by kernel_rfl))⟩
 f47:=Tryz.func279.trans (congrArg some (by kernel_rfl))
 f48:=Tryz.func280.trans (congrArg some (by kernel_rfl))
 f49:=⟨Tryz.f292.name,by decide,Tryz.func292.trans (congrArg some (by kernel_rfl))⟩
 f50:=⟨Tryz.f293.name,by decide,Tryz.func293.trans (congrArg some (by kernel_rfl))⟩
 f57:=⟨Tryz.f302.name,by decide,Tryz.func302.trans (congrArg some (by kernel_rfl))⟩
 t0:=Tryz.underlying0
 a0:=Tryz.isAgg0
 z0:=Tryz.sizeOf0
 v0:=Tryz.zeroValue0
 t3:=Tryz.underlying3
 a3:=Tryz.isAgg3
 z3:=Tryz.sizeOf3
 v3:=Tryz.zeroValue3
 t4:=Tryz.underlying4
 a4:=Tryz.isAgg4
 z4:=Tryz.sizeOf4
 v4:=Tryz.zeroValue4
 t5:=Tryz.underlying5
 a5:=Tryz.isAgg5
 z5:=Tryz.sizeOf5
 v5:=Tryz.zeroValue5
 t9:=Tryz.underlying9
 a9:=Tryz.isAgg9
 z9:=Tryz.sizeOf9
 v9:=Tryz.zeroValue9
 t22:=Tryz.underlying55
 a22:=Tryz.isAgg55
 z22:=Tryz.sizeOf55
 v22:=Tryz.zeroValue55
 t25:=Tryz.underlying238
 a25:=Tryz.isAgg238
 z25:=Tryz.sizeOf238
 v25:=Tryz.zeroValue238
 t39:=Tryz.underlying258
 a39:=Tryz.isAgg258
 z39:=Tryz.sizeOf258
 v39:=Tryz.zeroValue258
 t45:=Tryz.underlying301
 a45:=Tryz.isAgg301
 z45:=Tryz.sizeOf301
 v45:=Tryz.zeroValue301
 t46:=Tryz.underlying302
 a46:=Tryz.isAgg302
 z46:=Tryz.sizeOf302
 v46:=Tryz.zeroValue302
 t50:=Tryz.underlying174
 a50:=Tryz.isAgg174
 z50:=Tryz.sizeOf174
 v50:=Tryz.zeroValue174
 t53:=Tryz.underlying308
 a53:=Tryz.isAgg308
 z53:=Tryz.sizeOf308
 v53:=Tryz.zeroValue308
 t55:=Tryz.underlying241
 a55:=Tryz.isAgg241
 z55:=Tryz.sizeOf241
 v55:=Tryz.zeroValue241
 t66:=Tryz.underlying335
 a66:=Tryz.isAgg335
 z66:=Tryz.sizeOf335
 v66:=Tryz.zeroValue335
 t70:=Tryz.underlying109
 a70:=Tryz.isAgg109
 z70:=Tryz.sizeOf109
 v70:=Tryz.zeroValue109
 t76:=Tryz.underlying349
 a76:=Tryz.isAgg349
 z76:=Tryz.sizeOf349
 v76:=Tryz.zeroValue349
 t77:=Tryz.underlying167
 a77:=Tryz.isAgg167
 z77:=Tryz.sizeOf167
 v77:=Tryz.zeroValue167 }
def wda:Go.Shelf.Ren:=⟨fun|5=>122|7=>195|n=>n,fun|22=>3|3=>3|4=>4|n=>n,fun|n=>n⟩
theorem wea:Go.Proofs.SlLaysC2.n5 Tryz.prog wda:={
 mixed:=by kernel_rfl
 f5:=⟨Tryz.f122.name,by decide,Tryz.func122.trans (congrArg some (by kernel_rfl))⟩
 f7:=⟨Tryz.f195.name,by decide,Tryz.func195.trans (congrArg some (by kernel_rfl))⟩
 t3:=Tryz.underlying3
 a3:=Tryz.isAgg3
 z3:=Tryz.sizeOf3
 v3:=Tryz.zeroValue3
 t4:=Tryz.underlying4
 a4:=Tryz.isAgg4
 z4:=Tryz.sizeOf4
 v4:=Tryz.zeroValue4
 t22:=Tryz.underlying3
 a22:=Tryz.isAgg3
 z22:=Tryz.sizeOf3
 v22:=Tryz.zeroValue3 }
open Go.RowKit Go.Lib Go.Sort
instance:Inhabited Spn:=⟨⟨0,0⟩⟩
def vJ(x:Spn):List Value:=[.int .i64 x.from_,.int .i64 x.to_]
set_option maxHeartbeats 1000000 in
theorem Qba(x y:Spn)(W:World):Calls Tryz.prog 153 #[.agg #[.int .i64 x.from_,.int .i64 x.to_],.agg #[.int .i64 y.from_,.int .i64 y.to_]] W λe w'=>e= .returned (.int .i64 (Lib.compareInt x.from_ y.from_))/\∃q b,w'=grow (W.drewN q) b:=by
 have a:=λc=>AnyG.cmp_Compare_int wea x.from_ y.from_ c
 change ∀c,Calls Tryz.prog 122 _ _ _ at a
 generalize Lib.compareInt x.from_ y.from_=r at a⊢
 go_enter Tryz.func153,Tryz.ntmps153
 go_wp2_with (go_at_call 122;refine(a _).mono ?_;rintro e w' ⟨rfl,rfl⟩)
 go_ret
 exact⟨rfl,0,_,by rw[alloc_eq_grow,alloc_eq_grow,grow_grow];rfl⟩
theorem Qca(blk off size:Nat)(w:World):CmpLays Tryz.prog 153 #[] vJ 2 (λx y=>Lib.compareInt x.from_ y.from_) blk off size w:=
 λ_ _ _ _ x y=>Qba x y _
theorem ywa(x y:Spn):ltOf (λx y:Spn=>Lib.compareInt x.from_ y.from_) x y=decide (x.from_<y.from_):=by
 unfold ltOf Lib.compareInt
 by_cases a:x.from_<y.from_
 ·simp[a]
 ·by_cases b:y.from_<x.from_<;>simp[a,b]
theorem Y8a:SWO (ltOf λx y:Spn=>Lib.compareInt x.from_ y.from_):=
 { irrefl:=λx=>by rw[ywa];simp
   trans:=λx y z b a=>by rw[ywa] at *; simp at *; omega
   ntrans:=λx y z b a=>by rw[ywa] at *; simp at *; omega }
theorem VHa(blk off cap:Nat)(d:Array Spn)(w:World)(i:HoldsK vJ 2 w blk off d)(b:blk<w.heap.size)(c:d.size<4611686018427387904):
  Calls Tryz.prog 152 #[.slice (some ⟨blk,off,none⟩) d.size cap,.func (.func 153) #[] #[]] w λe w'=>e= .returned (.tuple #[])/\∃f n os,PermIn 0 d.size d f/\SortedIn (ltOf λx y:Spn=>Lib.compareInt x.from_ y.from_) 0 d.size f/\w'=sortWorldK vJ 2 w blk off n f os:=by
 have h:∀args w,(callFunc 153 args).run Tryz.prog w= .ok (.enter 153 args) w:=enters_of Tryz.func153 (by kernel_rfl) rfl
 have a:=AnyQ.slices_SortFunc kfa 2 Tryz.isAgg143 Tryz.sizeOf143 vJ (λ_=>rfl) (λx v g=>by simp[vJ] at g;rcases g with rfl|rfl<;>rfl) (λx y=>Lib.compareInt x.from_ y.from_) Y8a 153 #[] blk off cap d w h (Qca blk off d.size w) i b c
 exact a
theorem kga(A:Option Addr)(cap:Nat)(b:Value)(w:World):Calls Tryz.prog 152 #[.slice A 0 cap,b] w λe w'=>e= .returned (.tuple #[])/\w'=w:=by
 have a:=AnyF.slices_SortFunc_none kfa A cap b w
 exact a
def QC(l:List Spn):List Value:=(l.map vJ).flatten
theorem VR:∀l:List Spn,(QC l).length=l.length*2
 | []=>rfl
 | x::l=>by
   have:=VR l
   simp only[QC,List.map_cons,List.flatten_cons,zg,vJ,List.length_cons,List.length_nil] at this⊢
   omega
theorem Y6:∀(l:List Spn) (t:Nat),t<l.length*2->(QC l)[t]? =some ((vJ l.toArray[t / 2]!)[t % 2]!)
 | [],t,h=>by simp at h
 | x::l,0,_=>by simp[QC,vJ]
 | x::l,1,_=>by simp[QC,vJ]
 | x::l,t+2,h=>by
   have:=Y6 l t (by simp at h;omega)
   have b:(t+2) / 2=t / 2+1:=by omega
   have a:(t+2) % 2=t % 2:=by omega
   have c:(QC (x::l))[t+2]? =(QC l)[t]? :=by simp[QC,vJ]
   rw[c,this,b,a]
   simp
theorem wfa(l:List Spn):(flatK vJ 2 l.toArray).toList=QC l:=by
 apply qX
 intro t
 by_cases a:t<l.length*2
 ·rw[Y6 l t a]
  simp[flatK,a]
 ·rw[qB (by simp;omega),qB (by rw[VR];omega)]
theorem Y7:∀l:List Spn,(l.map qJ).flatten=(QC l).map .v
 | []=>rfl
 | x::l=>by
   have:=Y7 l
   simp only[QC,List.map_cons,List.flatten_cons,zw] at this⊢
   rw[this]
   rfl
theorem Ve{c:Ctx}:∀ {vs us:List Value},ARs c (vs.map .v) us->us=vs
 | [],_,h=>h
 | v::vs,us,⟨u,r,b,a,d⟩=>by
   have a:u=v:=a
   rw[b,a,Ve d]
theorem Y8(w:World)(blk n:Nat)(F:Array Value)(os:Array Obj){cur:Array Value}{e:TypeId}{b:Nat × Nat}(c:w.heap[blk]? =some (.cells cur e b)):
  (grow (putRow id (Sort.ahead w n) blk 0 F) os).heap[blk]? =some (.cells (putCells id 0 F cur) e b):=by
 have a:=(qM.1 c).1
 simp only[grow,putRow,mapBlock,Sort.ahead]
 rw[Array.getElem?_append_left (by simpa using a)]
 simp[Array.getElem?_modify,c,onCells]
theorem VS(w:World)(blk n:Nat)(F:Array Value)(os:Array Obj):w.grownBy (grow (putRow id (Sort.ahead w n) blk 0 F) os) (some blk):=by
 refine⟨rfl,rfl,rfl,by simp[grow,putRow,mapBlock,Sort.ahead],λk b a=>?_⟩
 simp only[grow,putRow,mapBlock,Sort.ahead]
 rw[Array.getElem?_append_left (by simpa using b),Array.getElem?_modify,if_neg (λe=>a (by rw[e]))]
theorem Y9(F cur:Array Value)(h:F.size<=cur.size):(putCells id 0 F cur).toList.take F.size=F.toList:=by
 apply qX
 intro t
 by_cases b:t<F.size
 ·have a:t<cur.size:=by omega
  simp[putCells,qZ,b,a]
 ·rw[qB (by simp;omega),qB (by simp;omega)]
theorem c93(h:List Ob)(id st:Nat)(l:List Spn)(G:h[id]? =some (.row 143 2 (l.map qJ) st))(hl:l.length<1099511627776):
  ACalls Tryz.prog 152 [.tl id st,.fn (.func 153) [] []] h λr h'=>r= .tup []/\∃l':List Spn,l'.Perm l/\l'.Pairwise leS/\h'=h.set id (.row 143 2 (l'.map qJ) st):=by
 refine⟨by kernel_rfl,⟨_,_,⟨rfl,_,List.mergeSort_perm l (λa b=>decide (a.from_<=b.from_)),?_,rfl⟩,qj G rfl⟩,?_⟩
 ·have:=List.pairwise_mergeSort (le:=λa b:Spn=>decide (a.from_<=b.from_)) (λa b c h1 h2=>by simp at *; omega) (λa b=>by simp;omega) l
  exact this.imp λh=>by simpa [leS] using h
 ·intro φ hu B w g vs M hB x
  have y:(fill φ h)[id]? =some (.row 143 2 (l.map qJ) st):=qL G rfl
  obtain⟨v1,r1,rfl,⟨_,H,E⟩,v2,r2,rfl,⟨us,vs,rfl,m,p⟩,K⟩:=x
  have K:r2=[]:=K
  subst K
  have m:us.toList=[]:=m
  have p:vs.toList=[]:=p
  have m:us= #[]:=by simpa using m
  have p:vs= #[]:=by simpa using p
  subst m;subst p
  have U:v1=g.cur id:=(E st (by simp[ctx,y,Ob.tok])).2 rfl
  obtain⟨q0,q1,cells,S,Q⟩:=M.ok id _ y
  rw[Y7] at Q
  have Y:=Ve Q
  subst Y
  by_cases z:l=[]
  ·subst z
   have I:∃A k,g.cur id= .slice A 0 k:=by
    rcases S.2 with⟨f,_⟩|⟨v,cap,cur,f,_⟩
    ·exact⟨_,_,f⟩
    ·exact⟨_,_,f⟩
   obtain⟨A,k,I⟩:=I
   rw[U,I]
   refine(kga A k _ w).mono ?_
   rintro e w' ⟨rfl,rfl⟩
   exact⟨_,_,_,_,rfl,⟨rfl,[],.refl _,.nil,(qS G).symm⟩,.refl,Good.refl M hB, #[],rfl,rfl⟩
  rcases S.2 with⟨_,f⟩|⟨v,cap,cur,f,X,F,L,W,R,V⟩
  ·exfalso
   simp at f
   exact z f
  ·have f:g.cur id=_:=f
   simp only[zb] at f L V
   have J:l.length*2<=cur.size:=by rw[R];exact Nat.mul_le_mul_right _ L
   have O:∀j,j<l.length*2->cur[j]? =some ((vJ l.toArray[j / 2]!)[j % 2]!):=λj s=>by
    rw[<-Y6 l j s, <-V,qZ,if_pos s,qC]
   have hH:HoldsK vJ 2 w v 0 l.toArray:=λj s=>by
    have s:j<l.length*2:=by simpa using s
    refine⟨?_,?_⟩
    ·simp only[World.cell?,F,Nat.zero_add]
     rw[get_flatK _ _ _ _ (by simpa using s)]
     exact O j s
    ·simp[World.frozen?,F]
   have o:=VHa v 0 cap l.toArray w hH (qM.1 F).1 (by simp;omega)
   rw[U,f]
   have N:l.toArray.size=l.length:=by simp
   rw[N] at o
   refine o.mono ?_
   rintro e w' ⟨rfl,d,n,os,Z,hs,rfl⟩
   obtain⟨p1,p2,T⟩:=Z
   have C:d.size=l.length:=by rw[p1];simp
   have t:d.toList.Perm l:=by
    have a1:d.extract 0 l.length=d:=by rw[<-C];simp
    have a2:l.toArray.extract 0 l.length=l.toArray:=by simp
    rw[a1,a2] at T
    exact T
   have u:d.toList.Pairwise leS:=by
    rw[List.pairwise_iff_getElem]
    intro i j hi s P
    simp only[qF] at hi s
    have:=hs i j (by omega) P (by omega)
    rw[ywa,getElem!_pos d i hi,getElem!_pos d j s] at this
    simp at this
    simpa [leS] using this
   have hF:(flatK vJ 2 d).toList=QC d.toList:=wfa d.toList
   have D:(flatK vJ 2 d).size=l.length*2:=by simp[C]
   have q:=Zv (w':=sortWorldK vJ 2 w v 0 n d os) (v':=g.cur id) (st':=st) (xs':=d.toList.map qJ) (cells:=QC d.toList) M hB y (by simp) (by rw[f];exact VS w v n _ os)
    ⟨by rw[VR];simp,.inr ⟨v,cap,_,by simp[f,C],X,Y8 w v n _ os F,by simp[C];exact L,W,by simp[putCells];exact R,by
     have:=Y9 (flatK vJ 2 d) cur (by rw[D];exact J)
     rw[hF,D] at this
     simpa [C] using this⟩⟩ (by rw[Y7];exact JI _) (.inl ⟨rfl,rfl⟩) (λb hb=> .inl hb)
   rw[<-ji rfl] at q
   exact⟨_,_,_,_,rfl,⟨rfl,d.toList,t,u,rfl⟩,qj G rfl,q, #[],rfl,rfl⟩
theorem xTb(x:AV):xy Tryz.prog 152 [.v (.slice none 0 0),x] (.tup []):=λh=>by
 refine⟨by kernel_rfl,⟨_,_,⟨rfl,rfl⟩,.refl⟩,?_⟩
 intro φ j B w g vs i hB a
 obtain⟨v1,k,rfl,c,d,f,rfl,_,b⟩:=a
 have b:f=[]:=b
 subst b
 have c:v1= .slice none 0 0:=c
 subst c
 refine(kga none 0 d w).mono ?_
 rintro e w' ⟨rfl,rfl⟩
 exact⟨_,_,_,_,rfl,⟨rfl,rfl⟩,.refl,Good.refl i hB, #[],rfl,rfl⟩
end Go.Proofs.YtigdlmpjijhpaaaGreat.Ax
namespace Go.Proofs.YtigdlmpjijhpaaaGreat.Ax
open Go Go.Proofs
set_option maxRecDepth 100000
theorem wga(l:List Spn)(x:Spn):xu (l++[x])=if(kE x).from_<(kE x).to_ then xu l++[kE x] else xu l:=by
 unfold xu
 rw[zw,qo]
 by_cases h:(kE x).from_<(kE x).to_
 ·simp[h]
 ·simp[h]
set_option maxHeartbeats 1000000 in
theorem c65(h:List Ob)(x:AV)(l:List Spn)(hx:SlOf h x 2 (l.map qJ))(hl:l.length<1099511627776):
  ACalls Tryz.prog 70 [x] h λr h'=>∃L,h'=h++L/\NoRes L/\New h 2 r ((qx l).map qJ) L:=by
 have hex:∃r h',(∃L,h'=h++L/\NoRes L/\New h 2 r ((qx l).map qJ) L)/\ResK h h':=
  ⟨.sl 2 _,_,⟨[],rfl,jm,λ_ _=>⟨rfl,λ_=>rfl⟩⟩,resK_app⟩
 refine zj Tryz.f70 [.tmp 2] 76 rfl rfl rfl rfl rfl rfl (by decide) (hex) λB=>?_
 rw[xL,xL,xL]
 refine w8 (λT h'=>Pre h h'/\∃l':List Spn,OwnS h h' 143 2 (T 3) (l'.map qJ)/\l'.Perm (xu l)/\l'.Pairwise leS) ?_ ?_
 ·simp only[go_sem,hx.rows,zb]
  refine zO (by decide) (λm T h'=>∃k:Nat,k<=l.length/\Pre h h'/\OwnS h h' 143 2 (T 3) ((xu (l.take k)).map qJ)/\T 10=x/\T 11=i64 l.length/\T 12=i64 k/\m=l.length - k) l.length
   ⟨0,by omega,Pre.refl,.inl ⟨by simp only[go_sem],rfl⟩,by simp only[go_sem],by simp only[go_sem],by(simp only[go_sem]<;>rfl),rfl⟩ ?_
  rintro m T h' ⟨k,hk,g,G,t10,K,w,rfl⟩
  simp only[go_sem,K,w]
  refine ways (λe=>?_) (λe=>?_)
  ·have f:=dlt e
   have μ:SlOf h' x 2 (l.map qJ):=by
    obtain⟨L,rfl,_⟩:=g
    exact hx.app _
   have ψ:=μ.at (i:=k) (by simpa using f)
   have d:(l.map qJ)[k]? =some (qJ l[k]):=by rw[zz,zi f];rfl
   have H:(k:Int)<l.length:=by omega
   have a:=wga (l.take k) l[k]
   rw[zE f] at a
   obtain⟨y,hy⟩:∃y,y=l[k]:=⟨_,rfl⟩
   rw[<-hy] at d a
   have fin:k+1<=l.length:=by omega
   have hA:List.length (qJ y)=2:=rfl
   simp only[go_sem,t10,w,ψ,μ.rows,d,H,zb,Int.toNat_natCast,zf,Q6,Q5]
   refine ways (λn=>?_) (λn=>?_)
   ·have n:(kE y).from_<(kE y).to_:=by simpa [kE] using n
    rw[if_pos n] at a
    rcases G with⟨t3,R⟩|⟨id,st,P,t3,J⟩
    ·simp only[go_sem,t3,w]
     refine⟨l.length - (k+1),by omega,k+1,fin,g.app (zl rfl (zl rfl (zD rfl))),.inr ⟨_,_,by have:=g.len;omega,rfl,?_⟩,t10,K,qn (by omega) rfl,rfl⟩
     rw[a,zw,R,zG rfl]
     rfl
    ·have O:((xu (l.take k)).map qJ).length+1<=1099511627776:=by
      have:=Xz (l.take k)
      rw[zH] at this
      rw[zb];omega
     have O:(((xu (l.take k)).map qJ).length+1)*17<=140737488355328:=by omega
     have t:∀M,(h'++M)[id]? =some (.row 143 2 ((xu (l.take k)).map qJ) st):=λM=>ze J
     simp only[go_sem,t3,w,t,O]
     refine⟨l.length - (k+1),by omega,k+1,fin,(g.app (zl rfl (zD rfl))).set P rfl,.inr ⟨id,st+1,P,rfl,?_⟩,t10,K,qn (by omega) rfl,rfl⟩
     rw[a,zw]
     exact zm (t _)
   ·have n:¬ (kE y).from_<(kE y).to_:=by simpa [kE] using n
    rw[if_neg n] at a
    simp only[go_sem,w]
    exact⟨l.length - (k+1),by omega,k+1,fin,g.app (zD rfl),by rw[a];exact G.app _,t10,K,qn (by omega) rfl,rfl⟩
  ·have τ:=xr e
   have α:k=l.length:=by omega
   subst α
   rw[zV] at G
   rcases G with⟨t3,R⟩|⟨id,st,P,t3,J⟩
   ·simp only[go_sem,t3]
    refine zh (xTb _ _) ?_
    rintro _ h4 ⟨rfl,e1⟩
    subst e1
    simp only[go_sem]
    exact⟨g,[],.inl ⟨t3,rfl⟩,by rw[show xu l=[] by simpa using R],.nil⟩
   ·simp only[go_sem,t3]
    refine zh (c93 _ id st (xu l) J (by have:=Xz l;omega)) ?_
    rintro _ h4 ⟨rfl,l',p1,p2,rfl⟩
    simp only[go_sem]
    exact⟨g.set P rfl,l',.inr ⟨id,st,P,t3,zm J⟩,p1,p2⟩
 ·rintro T h' ⟨g,l',G,u,W⟩
  have S:=Z8a u W
  have hlen:l'.length<=l.length:=by rw[u.length_eq];exact Xz l
  simp only[go_sem,G.rows.rows,zb]
  refine zO (by decide) (λm Q h'=>∃(k:Nat) (out:List Spn),k<=l'.length/\Pre h h'/\OwnS h h' 143 2 (T 3) (l'.map qJ)/\OwnS h h' 143 2 (Q 6) (out.map qJ)/\(∀i1 s1 i2 s2,T 3= .tl i1 s1->Q 6= .tl i2 s2->i1≠i2)/\out.length<=k/\((k=0/\out=[]/\Q 6= .v (.slice none 0 0))∨∃D c,out=D++[c]/\0<k/\ZE l'=D++vq c (l'.drop k))/\Q 35=T 3/\Q 36=i64 l'.length/\Q 37=i64 k/\m=l'.length - k) l'.length
   ⟨0,[],by omega,g,G,.inl ⟨by simp only[go_sem],rfl⟩,(λ_ _ _ _ _ q=>by simp only[go_sem] at q),zp _,.inl ⟨rfl,rfl,by simp only[go_sem]⟩,by simp only[go_sem],by simp only[go_sem],by(simp only[go_sem]<;>rfl),rfl⟩ ?_
  obtain⟨y,hy⟩:∃y,y=T 3:=⟨_,rfl⟩
  rw[<-hy]
  clear G g
  rintro m Q h' ⟨k,out,hk,g,G,hu,ι,I,hj,F,N,p,rfl⟩
  simp only[go_sem,N,p]
  refine ways (λe=>?_) (λe=>?_)
  ·have f:=dlt e
   have d:(l'.map qJ)[k]? =some (qJ l'[k]):=by rw[zz,zi f];rfl
   have b:l'.drop k=l'[k]::l'.drop (k+1):=qU f
   rcases G with⟨_,R⟩|⟨id,st,P,j,J⟩
   ·rw[List.map_eq_nil_iff] at R
    rw[R] at f;simp at f
   have t:∀M,(h'++M)[id]? =some (.row 143 2 (l'.map qJ) st):=λM=>ze J
   have H:(k:Int)<l'.length:=by omega
   obtain⟨z,hz⟩:∃z,z=l'[k]:=⟨_,rfl⟩
   rw[<-hz] at d b
   rcases hj with⟨U,rfl,t6⟩|⟨D,c,rfl,U,hm⟩
   ·simp only[go_sem,F,j,p,t6,J,t,d,H,zb,Int.toNat_natCast,zf]
    refine zQ rfl [] 0 [(0,0,[]),(1,0,[]),(2,0,[]),(3,0,[]),(5,0,[]),(6,0,[]),(7,0,[]),(4,0,[]),(8,0,[]),(9,0,[]),(10,0,[]),(11,0,[]),(12,0,[])] rfl (by decide) (by decide) ?_
    have ω:decide ((0:Int)>0)=false:=rfl
    simp only[go_sem,F,j,p,t6,t,ω]
    have ρ:=g.len
    have hid:id<h'.length:=(zd.1 J).1
    refine⟨l'.length - (k+1),by omega,k+1,[z],by omega,g.app (zl rfl (zl rfl (zD rfl))),.inr ⟨id,st,P,rfl,t _⟩,.inr ⟨_,_,by omega,rfl,by rw[zG rfl];rfl⟩,(λi1 s1 i2 s2 Y Z=>?_),by simp,.inr ⟨[],z,rfl,by omega,?_⟩,N,qn (by omega) rfl,rfl⟩
    ·injection Y with Y;injection Z with Z;omega
    ·rw[U,List.drop_zero] at b
     rw[b,U]
     rfl
   ·have ζ:wr (((D.length+1:Nat):Int) - 1)=(D.length:Int):=by
     rw[qq (by simp at I;unfold Fit;omega)];omega
    have σ:decide (((D.length+1:Nat):Int)>0)=true:=by simp
    have E:((D++[c]).map qJ).length=D.length+1:=by simp
    have X:((D++[c]).map qJ)[D.length]? =some (qJ c):=by simp
    have η:(D.length:Int)<((D.length+1:Nat):Int):=by omega
    obtain⟨out,A⟩:∃out,out=(D++[c]).map qJ:=⟨_,rfl⟩
    rcases hu with⟨_,R⟩|⟨β,V,u1,o,u3⟩
    ·simp at R
    have ε:=ι _ _ _ _ j o
    rw[<-A] at u3 E X
    have s:∀M,(h'++M)[β]? =some (.row 143 2 out V):=λM=>ze u3
    simp only[go_sem,F,j,p,o,J,u3,t,s,d,H,E,zb,Int.toNat_natCast,zf]
    refine zQ rfl [] 0 [(0,0,[]),(1,0,[]),(2,0,[]),(3,0,[]),(5,0,[]),(6,0,[]),(7,0,[]),(4,0,[]),(8,0,[]),(9,0,[]),(10,0,[]),(11,0,[]),(12,0,[])] rfl (by decide) (by decide) ?_
    simp only[go_sem,o,t,s,σ,ζ,X,E,η,Int.toNat_natCast,zf]
    refine ways (λn=>?_) (λn=>?_)
    ·have n:z.from_<=c.to_:=by simpa using n
     simp only[go_sem]
     refine zQ rfl [] 0 [(0,0,[]),(1,0,[]),(2,0,[]),(3,0,[]),(4,0,[]),(5,0,[]),(9,0,[]),(6,0,[]),(7,0,[]),(8,0,[]),(10,0,[]),(11,0,[]),(12,0,[]),(13,0,[]),(14,0,[])] rfl (by decide) (by decide) ?_
     simp only[go_sem,o,t,s,ζ,X,E,η,Int.toNat_natCast,zf,Q6,p]
     obtain⟨c2,θ⟩:∃c2:Spn,c2=⟨c.from_,max c.to_ z.to_⟩:=⟨_,rfl⟩
     have C:out.set D.length [i64 c.from_,i64 (max c.to_ z.to_)]=(D++[c2]).map qJ:=by
      rw[A,θ];simp
     rw[C]
     refine⟨l'.length - (k+1),by omega,k+1,D++[c2],by omega,(g.app (zD rfl)).set u1 rfl,.inr ⟨id,st,P,rfl,?_⟩,.inr ⟨β,V,u1,rfl,zm (s _)⟩,(λi1 s1 i2 s2 Y Z=>ι i1 s1 i2 s2 (j.trans Y) (o.trans Z)),by simp at I ⊢;omega,.inr ⟨D,_,rfl,by omega,?_⟩,by rw[F,j],N,qn (by omega) rfl,rfl⟩
     ·rw[zc (Ne.symm ε)];exact t _
     ·rw[hm,b,vq,if_pos n,θ]
    ·have n:¬ z.from_<=c.to_:=by simpa using n
     have O:(out.length+1)*17<=140737488355328:=by rw[E];simp at I;omega
     simp only[go_sem,o,t,s,O,p]
     have C:out++[[i64 z.from_,i64 z.to_]]=((D++[c])++[z]).map qJ:=by
      rw[A];simp
     rw[C]
     refine⟨l'.length - (k+1),by omega,k+1,(D++[c])++[z],by omega,(g.app (zl rfl (zD rfl))).set u1 rfl,.inr ⟨id,st,P,rfl,?_⟩,.inr ⟨β,V+1,u1,rfl,zm (s _)⟩,(λi1 s1 i2 s2 Y Z=>?_),by simp at I ⊢;omega,.inr ⟨D++[c],z,rfl,by omega,?_⟩,by rw[F,j],N,qn (by omega) rfl,rfl⟩
     ·rw[zc (Ne.symm ε)];exact t _
     ·injection Y with Y;injection Z with Z;omega
     ·rw[hm,b,vq,if_neg n,zr]
      rfl
  ·have τ:=xr e
   have α:k=l'.length:=by omega
   have κ:out=ZE l':=by
    rcases hj with⟨h0,h1,_⟩|⟨D,c,h0,_,h1⟩
    ·have:l'=[]:=List.length_eq_zero_iff.1 (by omega)
     rw[h1,this];rfl
    ·rw[h1,h0,α,List.drop_length];simp[vq]
   subst κ
   simp only[go_sem]
   obtain⟨L,rfl,hN⟩:=g
   exact⟨Q 6,by simp only[go_sem],.inl ⟨L,rfl,hN,by rw[<-S];exact hu.new (zp _)⟩⟩
open Go.RowKit Go.Lib
theorem yxa(A:Option Addr)(n k:Nat)(a:n<=k)(w:World):Calls Tryz.prog 154 #[.slice A n k] w λe w'=>(e= .returned (.slice A n n)/\w'=w):=by
 have c:(n:Int)<=(k:Int):=by omega
 have b:(0:Int)<=(n:Int):=by omega
 go_enter Tryz.func154,Tryz.ntmps154
 go_wp2
 go_ret
 exact⟨rfl,rfl⟩
theorem c96(h:List Ob)(id st:Nat)(rows:List (List AV))(f:h[id]? =some (.row 143 2 rows st)):ACalls Tryz.prog 154 [.tl id st] h λr h'=>r= .sl 2 rows/\h'=h.set id .gone:=by
 refine⟨by kernel_rfl,⟨_,_,⟨rfl,rfl⟩,qj f rfl⟩,?_⟩
 intro φ m B w g vs i hB a
 obtain⟨v1,l,rfl,j,d⟩:=a
 have d:l=[]:=d
 subst d
 obtain⟨k1,k2⟩:=Wr i hB (qL f rfl)
 rw[<-ji rfl] at k1 k2
 obtain⟨A,k,rfl,c,b⟩:=k2 _ j
 refine(yxa A rows.length k c w).mono ?_
 rintro e w' ⟨rfl,rfl⟩
 exact⟨_,_,_,_,rfl,⟨rfl,rfl⟩,qj f rfl,k1,A,rows.length,rfl,zp _,b⟩
theorem xUb:xy Tryz.prog 154 [.v (.slice none 0 0)] (.v (.slice none 0 0)):=λh=>by
 refine⟨by kernel_rfl,⟨_,_,⟨rfl,rfl⟩,.refl⟩,?_⟩
 intro φ i B w g vs d hB a
 obtain⟨v1,f,rfl,c,b⟩:=a
 have b:f=[]:=b
 subst b
 have c:v1= .slice none 0 0:=c
 subst c
 refine(yxa none 0 0 (zp _) w).mono ?_
 rintro e w' ⟨rfl,rfl⟩
 exact⟨_,_,_,_,rfl,⟨rfl,rfl⟩,.refl,Good.refl d hB,rfl⟩
