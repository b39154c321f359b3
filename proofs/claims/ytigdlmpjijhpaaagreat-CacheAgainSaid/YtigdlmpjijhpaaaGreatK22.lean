import Derived.Test.YtigdlmpjijhpaaaGreatKA
import Derived.Test.YtigdlmpjijhpaaaGreatK11
import Derived.Shelf.SlSortCmp.WholeK
import Derived.Shelf.SlSortCmp.NoneTotal
import Derived.Shelf.SlicesG.Cmp
import Derived.Test.YtigdlmpjijhpaaaGreatK20
import Derived.Test.YtigdlmpjijhpaaaGreatK21
set_option linter.all false
namespace Go.Proofs.YtigdlmpjijhpaaaGreat.Ax
open Go Go.Proofs Go.Shelf
def jYa:Go.Shelf.Ren:=⟨fun|6=>152|15=>175|14=>220|28=>236|29=>155|20=>260|21=>261|22=>262|23=>263|24=>264|25=>265|26=>266|27=>267|46=>291|47=>279|48=>280|49=>292|50=>293|57=>302|n=>n,fun|22=>55|24=>143|25=>238|3=>3|39=>258|0=>0|53=>308|55=>241|4=>4|46=>302|45=>301|50=>174|5=>5|9=>9|66=>335|70=>109|76=>349|77=>167|n=>n,fun|n=>n⟩
theorem kia:Go.Proofs.SlLaysF0.n6 Tryz.prog jYa:={
 mixed:=by kernel_rfl
 f6:=⟨Tryz.f152.name,by decide,Tryz.func152.trans (congrArg some (by kernel_rfl))⟩
 f14:=⟨Tryz.f220.name,by decide,Tryz.func220.trans (congrArg some (by kernel_rfl))⟩
 f15:=Tryz.func175.trans (congrArg some (by kernel_rfl))
 f20:=⟨Tryz.f260.name,by decide,Tryz.func260.trans (congrArg some (by kernel_rfl))⟩
 f21:=⟨Tryz.f261.name,by decide,Tryz.func261.trans (congrArg some (by kernel_rfl))⟩
 f22:=⟨Tryz.f262.name,by decide,Tryz.func262.trans (congrArg some (by kernel_rfl))⟩
 f23:=⟨Tryz.f263.name,by decide,Tryz.func263.trans (congrArg some (by kernel_rfl))⟩
 f24:=⟨Tryz.f264.name,by decide,Tryz.func264.trans (congrArg some (by kernel_rfl))⟩
 f25:=⟨Tryz.f265.name,by decide,Tryz.func265.trans (congrArg some (by kernel_rfl))⟩
 f26:=⟨Tryz.f266.name,by decide,Tryz.func266.trans (congrArg some (by kernel_rfl))⟩
 f27:=⟨Tryz.f267.name,by decide,Tryz.func267.trans (congrArg some (by kernel_rfl))⟩
 f28:=Tryz.func236.trans (congrArg some (by kernel_rfl))
 f29:=Tryz.func155.trans (congrArg some (by kernel_rfl))
 f46:=⟨Tryz.f291.name,by decide,Tryz.func291.trans (congrArg some (by kernel_rfl))⟩
 f47:=Tryz.func279.trans (congrArg some (by kernel_rfl))
 f48:=Tryz.func280.trans (congrArg some (by kernel_rfl))
 f49:=⟨Tryz.f292.name,by decide,Tryz.func292.trans (congrArg some (by kernel_rfl))⟩
 f50:=⟨Tryz.f293.name,by decide,Tryz.func293.trans (congrArg some (by kernel_rfl))⟩
 f57:=⟨Tryz.f302.name,by decide,Tryz.func302.trans (congrArg some (by kernel_rfl))⟩
 t0:=Tryz.underlying0
 a0:=Tryz.isAgg0
 z0:=Tryz.sizeOf0
 v0:=Tryz.zeroValue0
 t3:=Tryz.underlying3
 a3:=Tryz.isAgg3
 z3:=Tryz.sizeOf3
 v3:=Tryz.zeroValue3
 t4:=Tryz.underlying4
 a4:=Tryz.isAgg4
 z4:=Tryz.sizeOf4
 v4:=Tryz.zeroValue4
 t5:=Tryz.underlying5
 a5:=Tryz.isAgg5
 z5:=Tryz.sizeOf5
 v5:=Tryz.zeroValue5
 t9:=Tryz.underlying9
 a9:=Tryz.isAgg9
 z9:=Tryz.sizeOf9
 v9:=Tryz.zeroValue9
 t22:=Tryz.underlying55
 a22:=Tryz.isAgg55
 z22:=Tryz.sizeOf55
 v22:=Tryz.zeroValue55
 t25:=Tryz.underlying238
 a25:=Tryz.isAgg238
 z25:=Tryz.sizeOf238
 v25:=Tryz.zeroValue238
 t39:=Tryz.underlying258
 a39:=Tryz.isAgg258
 z39:=Tryz.sizeOf258
 v39:=Tryz.zeroValue258
 t45:=Tryz.underlying301
 a45:=Tryz.isAgg301
 z45:=Tryz.sizeOf301
 v45:=Tryz.zeroValue301
 t46:=Tryz.underlying302
 a46:=Tryz.isAgg302
 z46:=Tryz.sizeOf302
 v46:=Tryz.zeroValue302
 t50:=Tryz.underlying174
 a50:=Tryz.isAgg174
 z50:=Tryz.sizeOf174
 v50:=Tryz.zeroValue174
 t53:=Tryz.underlying308
 a53:=Tryz.isAgg308
 z53:=Tryz.sizeOf308
 v53:=Tryz.zeroValue308
 t55:=Tryz.underlying241
 a55:=Tryz.isAgg241
 z55:=Tryz.sizeOf241
 v55:=Tryz.zeroValue241
 t66:=Tryz.underlying335
 a66:=Tryz.isAgg335
 z66:=Tryz.sizeOf335
 v66:=Tryz.zeroValue335
 t70:=Tryz.underlying109
 a70:=Tryz.isAgg109
 z70:=Tryz.sizeOf109
 v70:=Tryz.zeroValue109
 t76:=Tryz.underlying349
 a76:=Tryz.isAgg349
 z76:=Tryz.sizeOf349
 v76:=Tryz.zeroValue349
 t77:=Tryz.underlying167
 a77:=Tryz.isAgg167
 z77:=Tryz.sizeOf167
 v77:=Tryz.zeroValue167 }
def wja:Go.Shelf.Ren:=⟨fun|5=>122|7=>195|n=>n,fun|22=>3|3=>3|4=>4|n=>n,fun|n=>n⟩
theorem wka:Go.Proofs.SlLaysC2.n5 Tryz.prog wja:={
 mixed:=by kernel_rfl
 f5:=⟨Tryz.f122.name,by decide,Tryz.func122.trans (congrArg some (by kernel_rfl))⟩
 f7:=⟨Tryz.f195.name,by decide,Tryz.func195.trans (congrArg some (by kernel_rfl))⟩
 t3:=Tryz.underlying3
 a3:=Tryz.isAgg3
 z3:=Tryz.sizeOf3
 v3:=Tryz.zeroValue3
 t4:=Tryz.underlying4
 a4:=Tryz.isAgg4
 z4:=Tryz.sizeOf4
 v4:=Tryz.zeroValue4
 t22:=Tryz.underlying3
 a22:=Tryz.isAgg3
 z22:=Tryz.sizeOf3
 v22:=Tryz.zeroValue3 }
open Go.RowKit Go.Lib Go.Sort
instance:Inhabited Spn:=⟨⟨0,0⟩⟩
def vL(x:Spn):List Value:=[.int .i64 x.from_,.int .i64 x.to_]
set_option maxHeartbeats 1000000 in
theorem Qia(x y:Spn)(W:World):Calls Tryz.prog 153 #[.agg #[.int .i64 x.from_,.int .i64 x.to_],.agg #[.int .i64 y.from_,.int .i64 y.to_]] W λe w'=>e= .returned (.int .i64 (Lib.compareInt x.from_ y.from_))/\∃q b,w'=grow (W.drewN q) b:=by
 have a:=λc=>AnyG.cmp_Compare_int wka x.from_ y.from_ c
 change ∀c,Calls Tryz.prog 122 _ _ _ at a
 generalize Lib.compareInt x.from_ y.from_=r at a⊢
 go_enter Tryz.func153,Tryz.ntmps153
 go_wp2_with (go_at_call 122;refine(a _).mono ?_;rintro e w' ⟨rfl,rfl⟩)
 go_ret
 exact⟨rfl,0,_,by rw[alloc_eq_grow,alloc_eq_grow,grow_grow];rfl⟩
theorem Qja(blk off size:Nat)(w:World):CmpLays Tryz.prog 153 #[] vL 2 (λx y=>Lib.compareInt x.from_ y.from_) blk off size w:=
 λ_ _ _ _ x y=>Qia x y _
theorem yBa(x y:Spn):ltOf (λx y:Spn=>Lib.compareInt x.from_ y.from_) x y=decide (x.from_<y.from_):=by
 unfold ltOf Lib.compareInt
 by_cases a:x.from_<y.from_
 ·simp[a]
 ·by_cases b:y.from_<x.from_<;>simp[a,b]
theorem zlb:SWO (ltOf λx y:Spn=>Lib.compareInt x.from_ y.from_):=
 { irrefl:=λx=>by rw[yBa];simp
   trans:=λx y z a b=>by rw[yBa] at *; simp at *; omega
   ntrans:=λx y z a b=>by rw[yBa] at *; simp at *; omega }
theorem VUa(blk off cap:Nat)(d:Array Spn)(w:World)(h:HoldsK vL 2 w blk off d)(a:blk<w.heap.size)(c:d.size<4611686018427387904):
  Calls Tryz.prog 152 #[.slice (some ⟨blk,off,none⟩) d.size cap,.func (.func 153) #[] #[]] w λe w'=>e= .returned (.tuple #[])/\∃f n os,PermIn 0 d.size d f/\SortedIn (ltOf λx y:Spn=>Lib.compareInt x.from_ y.from_) 0 d.size f/\w'=sortWorldK vL 2 w blk off n f os:=by
 have i:∀args w,(callFunc 153 args).run Tryz.prog w= .ok (.enter 153 args) w:=enters_of Tryz.func153 (by kernel_rfl) rfl
 have b:=AnyQ.slices_SortFunc kia 2 Tryz.isAgg143 Tryz.sizeOf143 vL (λ_=>rfl) (λx v g=>by simp[vL] at g;rcases g with rfl|rfl<;>rfl) (λx y=>Lib.compareInt x.from_ y.from_) zlb 153 #[] blk off cap d w i (Qja blk off d.size w) h a c
 exact b
theorem kja(A:Option Addr)(cap:Nat)(b:Value)(w:World):Calls Tryz.prog 152 #[.slice A 0 cap,b] w λe w'=>e= .returned (.tuple #[])/\w'=w:=by
 have a:=AnyF.slices_SortFunc_none kia A cap b w
 exact a
def QF(l:List Spn):List Value:=(l.map vL).flatten
theorem VT:∀l:List Spn,(QF l).length=l.length*2
 | []=>rfl
 | x::l=>by
   have:=VT l
   simp only[QF,List.map_cons,List.flatten_cons,zf,vL,List.length_cons,List.length_nil] at this⊢
   omega
theorem Y8:∀(l:List Spn) (t:Nat),t<l.length*2->(QF l)[t]? =some ((vL l.toArray[t / 2]!)[t % 2]!)
 | [],t,h=>by simp at h
 | x::l,0,_=>by simp[QF,vL]
 | x::l,1,_=>by simp[QF,vL]
 | x::l,t+2,h=>by
   have:=Y8 l t (by simp at h;omega)
   have b:(t+2) / 2=t / 2+1:=by omega
   have c:(t+2) % 2=t % 2:=by omega
   have a:(QF (x::l))[t+2]? =(QF l)[t]? :=by simp[QF,vL]
   rw[a,this,b,c]
   simp
theorem wla(l:List Spn):(flatK vL 2 l.toArray).toList=QF l:=by
 apply qX
 intro t
 by_cases a:t<l.length*2
 ·rw[Y8 l t a]
  simp[flatK,a]
 ·rw[qB (by simp;omega),qB (by rw[VT];omega)]
theorem Y9:∀l:List Spn,(l.map qJ).flatten=(QF l).map .v
 | []=>rfl
 | x::l=>by
   have:=Y9 l
   simp only[QF,List.map_cons,List.flatten_cons,zw] at this⊢
   rw[this]
   rfl
theorem Vf{c:Ctx}:∀ {vs us:List Value},ARs c (vs.map .v) us->us=vs
 | [],_,h=>h
 | v::vs,us,⟨u,r,b,a,d⟩=>by
   have a:u=v:=a
   rw[b,a,Vf d]
theorem zaa(w:World)(blk n:Nat)(F:Array Value)(os:Array Obj){cur:Array Value}{e:TypeId}{c:Nat × Nat}(b:w.heap[blk]? =some (.cells cur e c)):
  (grow (putRow id (Sort.ahead w n) blk 0 F) os).heap[blk]? =some (.cells (putCells id 0 F cur) e c):=by
 have a:=(qN.1 b).1
 simp only[grow,putRow,mapBlock,Sort.ahead]
 rw[Array.getElem?_append_left (by simpa using a)]
 simp[Array.getElem?_modify,b,onCells]
theorem VU(w:World)(blk n:Nat)(F:Array Value)(os:Array Obj):w.grownBy (grow (putRow id (Sort.ahead w n) blk 0 F) os) (some blk):=by
 refine⟨rfl,rfl,rfl,by simp[grow,putRow,mapBlock,Sort.ahead],λk b a=>?_⟩
 simp only[grow,putRow,mapBlock,Sort.ahead]
 rw[Array.getElem?_append_left (by simpa using b),Array.getElem?_modify,if_neg (λe=>a (by rw[e]))]
theorem zba(F cur:Array Value)(h:F.size<=cur.size):(putCells id 0 F cur).toList.take F.size=F.toList:=by
 apply qX
 intro t
 by_cases a:t<F.size
 ·have b:t<cur.size:=by omega
  simp[putCells,qY,a,b]
 ·rw[qB (by simp;omega),qB (by simp;omega)]
theorem c93(h:List Ob)(id st:Nat)(l:List Spn)(F:h[id]? =some (.row 143 2 (l.map qJ) st))(hl:l.length<1099511627776):
  ACalls Tryz.prog 152 [.tl id st,.fn (.func 153) [] []] h λr h'=>r= .tup []/\∃l':List Spn,l'.Perm l/\l'.Pairwise leS/\h'=h.set id (.row 143 2 (l'.map qJ) st):=by
 refine⟨by kernel_rfl,⟨_,_,⟨rfl,_,List.mergeSort_perm l (λa b=>decide (a.from_<=b.from_)),?_,rfl⟩,qi F rfl⟩,?_⟩
 ·have:=List.pairwise_mergeSort (le:=λa b:Spn=>decide (a.from_<=b.from_)) (λa b c h1 h2=>by simp at *; omega) (λa b=>by simp;omega) l
  exact this.imp λh=>by simpa [leS] using h
 ·intro φ hu B w g vs M hB v
  have y:(fill φ h)[id]? =some (.row 143 2 (l.map qJ) st):=qL F rfl
  obtain⟨v1,r1,rfl,⟨_,L,C⟩,v2,r2,rfl,⟨us,vs,rfl,o,p⟩,J⟩:=v
  have J:r2=[]:=J
  subst J
  have o:us.toList=[]:=o
  have p:vs.toList=[]:=p
  have o:us= #[]:=by simpa using o
  have p:vs= #[]:=by simpa using p
  subst o;subst p
  have R:v1=g.cur id:=(C st (by simp[ctx,y,Ob.tok])).2 rfl
  obtain⟨q0,q1,cells,V,Q⟩:=M.ok id _ y
  rw[Y9] at Q
  have Z:=Vf Q
  subst Z
  by_cases z:l=[]
  ·subst z
   have H:∃A k,g.cur id= .slice A 0 k:=by
    rcases V.2 with⟨f,_⟩|⟨u,cap,cur,f,_⟩
    ·exact⟨_,_,f⟩
    ·exact⟨_,_,f⟩
   obtain⟨A,k,H⟩:=H
   rw[R,H]
   refine(kja A k _ w).mono ?_
   rintro e w' ⟨rfl,rfl⟩
   exact⟨_,_,_,_,rfl,⟨rfl,[],.refl _,.nil,(qS F).symm⟩,.refl,Good.refl M hB, #[],rfl,rfl⟩
  rcases V.2 with⟨_,f⟩|⟨u,cap,cur,f,Y,G,K,e7,T,S⟩
  ·exfalso
   simp at f
   exact z f
  ·have f:g.cur id=_:=f
   simp only[zb] at f K S
   have O:l.length*2<=cur.size:=by rw[T];exact Nat.mul_le_mul_right _ K
   have P:∀j,j<l.length*2->cur[j]? =some ((vL l.toArray[j / 2]!)[j % 2]!):=λj s=>by
    rw[<-Y8 l j s, <-S,qY,if_pos s,qC]
   have hH:HoldsK vL 2 w u 0 l.toArray:=λj s=>by
    have s:j<l.length*2:=by simpa using s
    refine⟨?_,?_⟩
    ·simp only[World.cell?,G,Nat.zero_add]
     rw[get_flatK _ _ _ _ (by simpa using s)]
     exact P j s
    ·simp[World.frozen?,G]
   have m:=VUa u 0 cap l.toArray w hH (qN.1 G).1 (by simp;omega)
   rw[R,f]
   have N:l.toArray.size=l.length:=by simp
   rw[N] at m
   refine m.mono ?_
   rintro e w' ⟨rfl,d,n,os,hp,X,rfl⟩
   obtain⟨p1,p2,U⟩:=hp
   have D:d.size=l.length:=by rw[p1];simp
   have t:d.toList.Perm l:=by
    have a1:d.extract 0 l.length=d:=by rw[<-D];simp
    have a2:l.toArray.extract 0 l.length=l.toArray:=by simp
    rw[a1,a2] at U
    exact U
   have x:d.toList.Pairwise leS:=by
    rw[List.pairwise_iff_getElem]
    intro i j hi s I
    simp only[qF] at hi s
    have:=X i j (by omega) I (by omega)
    rw[yBa,getElem!_pos d i hi,getElem!_pos d j s] at this
    simp at this
    simpa [leS] using this
   have hF:(flatK vL 2 d).toList=QF d.toList:=wla d.toList
   have E:(flatK vL 2 d).size=l.length*2:=by simp[D]
   have q:=Zy (w':=sortWorldK vL 2 w u 0 n d os) (v':=g.cur id) (st':=st) (xs':=d.toList.map qJ) (cells:=QF d.toList) M hB y (by simp) (by rw[f];exact VU w u n _ os)
    ⟨by rw[VT];simp,.inr ⟨u,cap,_,by simp[f,D],Y,zaa w u n _ os G,by simp[D];exact K,e7,by simp[putCells];exact T,by
     have:=zba (flatK vL 2 d) cur (by rw[E];exact O)
     rw[hF,E] at this
     simpa [D] using this⟩⟩ (by rw[Y9];exact JM _) (.inl ⟨rfl,rfl⟩) (λb W=> .inl W)
   rw[<-jj rfl] at q
   exact⟨_,_,_,_,rfl,⟨rfl,d.toList,t,x,rfl⟩,qi F rfl,q, #[],rfl,rfl⟩
theorem kdb(x:AV):xA Tryz.prog 152 [.v (.slice none 0 0),x] (.tup []):=λh=>by
 refine⟨by kernel_rfl,⟨_,_,⟨rfl,rfl⟩,.refl⟩,?_⟩
 intro φ k B w g vs d hB a
 obtain⟨v1,j,rfl,c,i,f,rfl,_,b⟩:=a
 have b:f=[]:=b
 subst b
 have c:v1= .slice none 0 0:=c
 subst c
 refine(kja none 0 i w).mono ?_
 rintro e w' ⟨rfl,rfl⟩
 exact⟨_,_,_,_,rfl,⟨rfl,rfl⟩,.refl,Good.refl d hB, #[],rfl,rfl⟩
end Go.Proofs.YtigdlmpjijhpaaaGreat.Ax
namespace Go.Proofs.YtigdlmpjijhpaaaGreat.Ax
open Go Go.Proofs
set_option maxRecDepth 100000
theorem wma(l:List Spn)(x:Spn):xw (l++[x])=if(kJ x).from_<(kJ x).to_ then xw l++[kJ x] else xw l:=by
 unfold xw
 rw[zw,qu]
 by_cases h:(kJ x).from_<(kJ x).to_
 ·simp[h]
 ·simp[h]
set_option maxHeartbeats 1000000 in
theorem c65(h:List Ob)(x:AV)(l:List Spn)(hx:SlOf h x 2 (l.map qJ))(hl:l.length<1099511627776):
  ACalls Tryz.prog 70 [x] h λr h'=>∃L,h'=h++L/\NoRes L/\New h 2 r ((qz l).map qJ) L:=by
 have hex:∃r h',(∃L,h'=h++L/\NoRes L/\New h 2 r ((qz l).map qJ) L)/\ResK h h':=
  ⟨.sl 2 _,_,⟨[],rfl,jh,λ_ _=>⟨rfl,λ_=>rfl⟩⟩,resK_app⟩
 refine zi Tryz.f70 [.tmp 2] 76 rfl rfl rfl rfl rfl rfl (by decide) (hex) λB=>?_
 rw[xM,xM,xM]
 refine w9 (λT h'=>Pre h h'/\∃l':List Spn,OwnS h h' 143 2 (T 3) (l'.map qJ)/\l'.Perm (xw l)/\l'.Pairwise leS) ?_ ?_
 ·simp only[go_sem,hx.rows,zb]
  refine zI (by decide) (λm T h'=>∃k:Nat,k<=l.length/\Pre h h'/\OwnS h h' 143 2 (T 3) ((xw (l.take k)).map qJ)/\T 10=x/\T 11=i64 l.length/\T 12=i64 k/\m=l.length - k) l.length
   ⟨0,by omega,Pre.refl,.inl ⟨by simp only[go_sem],rfl⟩,by simp only[go_sem],by simp only[go_sem],by(simp only[go_sem]<;>rfl),rfl⟩ ?_
  rintro m T h' ⟨k,hk,g,G,t10,N,E,rfl⟩
  simp only[go_sem,N,E]
  refine ways (λe=>?_) (λe=>?_)
  ·have f:=dlt e
   have μ:SlOf h' x 2 (l.map qJ):=by
    obtain⟨L,rfl,_⟩:=g
    exact hx.app _
   have σ:=μ.at (i:=k) (by simpa using f)
   have d:(l.map qJ)[k]? =some (qJ l[k]):=by rw[zz,zj f];rfl
   have H:(k:Int)<l.length:=by omega
   have a:=wma (l.take k) l[k]
   rw[zE f] at a
   obtain⟨y,hy⟩:∃y,y=l[k]:=⟨_,rfl⟩
   rw[<-hy] at d a
   have fin:k+1<=l.length:=by omega
   have hA:List.length (qJ y)=2:=rfl
   simp only[go_sem,t10,E,σ,μ.rows,d,H,zb,Int.toNat_natCast,zh,Q8,Q7]
   refine ways (λn=>?_) (λn=>?_)
   ·have n:(kJ y).from_<(kJ y).to_:=by simpa [kJ] using n
    rw[if_pos n] at a
    rcases G with⟨t3,R⟩|⟨id,st,J,t3,I⟩
    ·simp only[go_sem,t3,E]
     refine⟨l.length - (k+1),by omega,k+1,fin,g.app (zl rfl (zl rfl (zD rfl))),.inr ⟨_,_,by have:=g.len;omega,rfl,?_⟩,t10,N,qf (by omega) rfl,rfl⟩
     rw[a,zw,R,zG rfl]
     rfl
    ·have P:((xw (l.take k)).map qJ).length+1<=1099511627776:=by
      have:=XC (l.take k)
      rw[zJ] at this
      rw[zb];omega
     have P:(((xw (l.take k)).map qJ).length+1)*17<=140737488355328:=by omega
     have t:∀M,(h'++M)[id]? =some (.row 143 2 ((xw (l.take k)).map qJ) st):=λM=>ze I
     simp only[go_sem,t3,E,t,P]
     refine⟨l.length - (k+1),by omega,k+1,fin,(g.app (zl rfl (zD rfl))).set J rfl,.inr ⟨id,st+1,J,rfl,?_⟩,t10,N,qf (by omega) rfl,rfl⟩
     rw[a,zw]
     exact zm (t _)
   ·have n:¬ (kJ y).from_<(kJ y).to_:=by simpa [kJ] using n
    rw[if_neg n] at a
    simp only[go_sem,E]
    exact⟨l.length - (k+1),by omega,k+1,fin,g.app (zD rfl),by rw[a];exact G.app _,t10,N,qf (by omega) rfl,rfl⟩
  ·have ρ:=j9 e
   have S:k=l.length:=by omega
   subst S
   rw[zP] at G
   rcases G with⟨t3,R⟩|⟨id,st,J,t3,I⟩
   ·simp only[go_sem,t3]
    refine zg (kdb _ _) ?_
    rintro _ h4 ⟨rfl,e1⟩
    subst e1
    simp only[go_sem]
    exact⟨g,[],.inl ⟨t3,rfl⟩,by rw[show xw l=[] by simpa using R],.nil⟩
   ·simp only[go_sem,t3]
    refine zg (c93 _ id st (xw l) I (by have:=XC l;omega)) ?_
    rintro _ h4 ⟨rfl,l',p1,p2,rfl⟩
    simp only[go_sem]
    exact⟨g.set J rfl,l',.inr ⟨id,st,J,t3,zm I⟩,p1,p2⟩
 ·rintro T h' ⟨g,l',G,F,Z⟩
  have β:=Qfa F Z
  have hlen:l'.length<=l.length:=by rw[F.length_eq];exact XC l
  simp only[go_sem,G.rows.rows,zb]
  refine zI (by decide) (λm Q h'=>∃(k:Nat) (out:List Spn),k<=l'.length/\Pre h h'/\OwnS h h' 143 2 (T 3) (l'.map qJ)/\OwnS h h' 143 2 (Q 6) (out.map qJ)/\(∀i1 s1 i2 s2,T 3= .tl i1 s1->Q 6= .tl i2 s2->i1≠i2)/\out.length<=k/\((k=0/\out=[]/\Q 6= .v (.slice none 0 0))∨∃D c,out=D++[c]/\0<k/\ZH l'=D++vr c (l'.drop k))/\Q 35=T 3/\Q 36=i64 l'.length/\Q 37=i64 k/\m=l'.length - k) l'.length
   ⟨0,[],by omega,g,G,.inl ⟨by simp only[go_sem],rfl⟩,(λ_ _ _ _ _ q=>by simp only[go_sem] at q),zo _,.inl ⟨rfl,rfl,by simp only[go_sem]⟩,by simp only[go_sem],by simp only[go_sem],by(simp only[go_sem]<;>rfl),rfl⟩ ?_
  obtain⟨y,hy⟩:∃y,y=T 3:=⟨_,rfl⟩
  rw[<-hy]
  clear G g
  rintro m Q h' ⟨k,out,hk,g,G,hu,ε,O,hj,A,K,p,rfl⟩
  simp only[go_sem,K,p]
  refine ways (λe=>?_) (λe=>?_)
  ·have f:=dlt e
   have d:(l'.map qJ)[k]? =some (qJ l'[k]):=by rw[zz,zj f];rfl
   have b:l'.drop k=l'[k]::l'.drop (k+1):=qU f
   rcases G with⟨_,R⟩|⟨id,st,J,j,I⟩
   ·rw[List.map_eq_nil_iff] at R
    rw[R] at f;simp at f
   have t:∀M,(h'++M)[id]? =some (.row 143 2 (l'.map qJ) st):=λM=>ze I
   have H:(k:Int)<l'.length:=by omega
   obtain⟨z,hz⟩:∃z,z=l'[k]:=⟨_,rfl⟩
   rw[<-hz] at d b
   rcases hj with⟨U,rfl,t6⟩|⟨D,c,rfl,U,hm⟩
   ·simp only[go_sem,A,j,p,t6,I,t,d,H,zb,Int.toNat_natCast,zh]
    refine zL rfl [] 0 [(0,0,[]),(1,0,[]),(2,0,[]),(3,0,[]),(5,0,[]),(6,0,[]),(7,0,[]),(4,0,[]),(8,0,[]),(9,0,[]),(10,0,[]),(11,0,[]),(12,0,[])] rfl (by decide) (by decide) ?_
    have χ:decide ((0:Int)>0)=false:=rfl
    simp only[go_sem,A,j,p,t6,t,χ]
    have ω:=g.len
    have hid:id<h'.length:=(zd.1 I).1
    refine⟨l'.length - (k+1),by omega,k+1,[z],by omega,g.app (zl rfl (zl rfl (zD rfl))),.inr ⟨id,st,J,rfl,t _⟩,.inr ⟨_,_,by omega,rfl,by rw[zG rfl];rfl⟩,(λi1 s1 i2 s2 X r2=>?_),by simp,.inr ⟨[],z,rfl,by omega,?_⟩,K,qf (by omega) rfl,rfl⟩
    ·injection X with X;injection r2 with r2;omega
    ·rw[U,List.drop_zero] at b
     rw[b,U]
     rfl
   ·have η:wr (((D.length+1:Nat):Int) - 1)=(D.length:Int):=by
     rw[qp (by simp at O;unfold Fit;omega)];omega
    have υ:decide (((D.length+1:Nat):Int)>0)=true:=by simp
    have C:((D++[c]).map qJ).length=D.length+1:=by simp
    have V:((D++[c]).map qJ)[D.length]? =some (qJ c):=by simp
    have θ:(D.length:Int)<((D.length+1:Nat):Int):=by omega
    obtain⟨out,w⟩:∃out,out=(D++[c]).map qJ:=⟨_,rfl⟩
    rcases hu with⟨_,R⟩|⟨Y,W,u1,o,u3⟩
    ·simp at R
    have ζ:=ε _ _ _ _ j o
    rw[<-w] at u3 C V
    have s:∀M,(h'++M)[Y]? =some (.row 143 2 out W):=λM=>ze u3
    simp only[go_sem,A,j,p,o,I,u3,t,s,d,H,C,zb,Int.toNat_natCast,zh]
    refine zL rfl [] 0 [(0,0,[]),(1,0,[]),(2,0,[]),(3,0,[]),(5,0,[]),(6,0,[]),(7,0,[]),(4,0,[]),(8,0,[]),(9,0,[]),(10,0,[]),(11,0,[]),(12,0,[])] rfl (by decide) (by decide) ?_
    simp only[go_sem,o,t,s,υ,η,V,C,θ,Int.toNat_natCast,zh]
    refine ways (λn=>?_) (λn=>?_)
    ·have n:z.from_<=c.to_:=by simpa using n
     simp only[go_sem]
     refine zL rfl [] 0 [(0,0,[]),(1,0,[]),(2,0,[]),(3,0,[]),(4,0,[]),(5,0,[]),(9,0,[]),(6,0,[]),(7,0,[]),(8,0,[]),(10,0,[]),(11,0,[]),(12,0,[]),(13,0,[]),(14,0,[])] rfl (by decide) (by decide) ?_
     simp only[go_sem,o,t,s,η,V,C,θ,Int.toNat_natCast,zh,Q8,p]
     obtain⟨c2,ν⟩:∃c2:Spn,c2=⟨c.from_,max c.to_ z.to_⟩:=⟨_,rfl⟩
     have u:out.set D.length [i64 c.from_,i64 (max c.to_ z.to_)]=(D++[c2]).map qJ:=by
      rw[w,ν];simp
     rw[u]
     refine⟨l'.length - (k+1),by omega,k+1,D++[c2],by omega,(g.app (zD rfl)).set u1 rfl,.inr ⟨id,st,J,rfl,?_⟩,.inr ⟨Y,W,u1,rfl,zm (s _)⟩,(λi1 s1 i2 s2 X r2=>ε i1 s1 i2 s2 (j.trans X) (o.trans r2)),by simp at O ⊢;omega,.inr ⟨D,_,rfl,by omega,?_⟩,by rw[A,j],K,qf (by omega) rfl,rfl⟩
     ·rw[zc (Ne.symm ζ)];exact t _
     ·rw[hm,b,vr,if_pos n,ν]
    ·have n:¬ z.from_<=c.to_:=by simpa using n
     have P:(out.length+1)*17<=140737488355328:=by rw[C];simp at O;omega
     simp only[go_sem,o,t,s,P,p]
     have u:out++[[i64 z.from_,i64 z.to_]]=((D++[c])++[z]).map qJ:=by
      rw[w];simp
     rw[u]
     refine⟨l'.length - (k+1),by omega,k+1,(D++[c])++[z],by omega,(g.app (zl rfl (zD rfl))).set u1 rfl,.inr ⟨id,st,J,rfl,?_⟩,.inr ⟨Y,W+1,u1,rfl,zm (s _)⟩,(λi1 s1 i2 s2 X r2=>?_),by simp at O ⊢;omega,.inr ⟨D++[c],z,rfl,by omega,?_⟩,by rw[A,j],K,qf (by omega) rfl,rfl⟩
     ·rw[zc (Ne.symm ζ)];exact t _
     ·injection X with X;injection r2 with r2;omega
     ·rw[hm,b,vr,if_neg n,zt]
      rfl
  ·have ρ:=j9 e
   have S:k=l'.length:=by omega
   have κ:out=ZH l':=by
    rcases hj with⟨h0,h1,_⟩|⟨D,c,h0,_,h1⟩
    ·have:l'=[]:=List.length_eq_zero_iff.1 (by omega)
     rw[h1,this];rfl
    ·rw[h1,h0,S,List.drop_length];simp[vr]
   subst κ
   simp only[go_sem]
   obtain⟨L,rfl,hN⟩:=g
   exact⟨Q 6,by simp only[go_sem],.inl ⟨L,rfl,hN,by rw[<-β];exact hu.new (zo _)⟩⟩
open Go.RowKit Go.Lib
theorem yCa(A:Option Addr)(n k:Nat)(a:n<=k)(w:World):Calls Tryz.prog 154 #[.slice A n k] w λe w'=>(e= .returned (.slice A n n)/\w'=w):=by
 have b:(n:Int)<=(k:Int):=by omega
 have c:(0:Int)<=(n:Int):=by omega
 go_enter Tryz.func154,Tryz.ntmps154
 go_wp2
 go_ret
 exact⟨rfl,rfl⟩
theorem c96(h:List Ob)(id st:Nat)(rows:List (List AV))(d:h[id]? =some (.row 143 2 rows st)):ACalls Tryz.prog 154 [.tl id st] h λr h'=>r= .sl 2 rows/\h'=h.set id .gone:=by
 refine⟨by kernel_rfl,⟨_,_,⟨rfl,rfl⟩,qi d rfl⟩,?_⟩
 intro φ m B w g vs i hB a
 obtain⟨v1,j,rfl,l,f⟩:=a
 have f:j=[]:=f
 subst f
 obtain⟨k1,k2⟩:=Wt i hB (qL d rfl)
 rw[<-jj rfl] at k1 k2
 obtain⟨A,k,rfl,c,b⟩:=k2 _ l
 refine(yCa A rows.length k c w).mono ?_
 rintro e w' ⟨rfl,rfl⟩
 exact⟨_,_,_,_,rfl,⟨rfl,rfl⟩,qi d rfl,k1,A,rows.length,rfl,zo _,b⟩
theorem keb:xA Tryz.prog 154 [.v (.slice none 0 0)] (.v (.slice none 0 0)):=λh=>by
 refine⟨by kernel_rfl,⟨_,_,⟨rfl,rfl⟩,.refl⟩,?_⟩
 intro φ i B w g vs d hB a
 obtain⟨v1,f,rfl,c,b⟩:=a
 have b:f=[]:=b
 subst b
 have c:v1= .slice none 0 0:=c
 subst c
 refine(yCa none 0 0 (zo _) w).mono ?_
 rintro e w' ⟨rfl,rfl⟩
 exact⟨_,_,_,_,rfl,⟨rfl,rfl⟩,.refl,Good.refl d hB,rfl⟩
