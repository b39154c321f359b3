import Derived.Test.YtigdlmpjijhpaaaGreatBA
import Derived.Test.YtigdlmpjijhpaaaGreatB11
import Derived.Shelf.SlSortCmp.WholeK
import Derived.Shelf.SlSortCmp.NoneTotal
import Derived.Shelf.SlicesG.Cmp
import Derived.Test.YtigdlmpjijhpaaaGreatB20
import Derived.Test.YtigdlmpjijhpaaaGreatB21
set_option linter.all false
namespace Go.Proofs.YtigdlmpjijhpaaaGreat.Ax
open Go Go.Proofs Go.Shelf
def jNa:Go.Shelf.Ren:=⟨fun|6=>152|15=>175|14=>220|28=>236|29=>155|20=>260|21=>261|22=>262|23=>263|24=>264|25=>265|26=>266|27=>267|46=>291|47=>279|48=>280|49=>292|50=>293|57=>302|n=>n,fun|22=>55|24=>143|25=>238|3=>3|39=>258|0=>0|53=>308|55=>241|4=>4|46=>302|45=>301|50=>174|5=>5|9=>9|66=>335|70=>109|76=>349|77=>167|n=>n,fun|n=>n⟩
theorem x5a:Go.Proofs.SlLaysF0.n6 Tryz.prog jNa:={
 mixed:=by kernel_rfl
 f6:=⟨Tryz.f152.name,by decide,Tryz.func152.trans (congrArg some (by kernel_rfl))⟩
 f14:=⟨Tryz.f220.name,by decide,Tryz.func220.trans (congrArg some (by kernel_rfl))⟩
 f15:=Tryz.func175.trans (congrArg some (by kernel_rfl))
 f20:=⟨Tryz.f260.name,by decide,Tryz.func260.trans (congrArg some (by kernel_rfl))⟩
 f21:=⟨Tryz.f261.name,by decide,Tryz.func261.trans (congrArg some (by kernel_rfl))⟩
 f22:=⟨Tryz.f262.name,by decide,Tryz.func262.trans (congrArg some (by kernel_rfl))⟩
 f23:=⟨Tryz.f263.name,by decide,Tryz.func263.trans (congrArg some (by kernel_rfl))⟩
 f24:=⟨Tryz.f264.name,by decide,Tryz.func264.trans (congrArg some (by kernel_rfl))⟩
 f25:=⟨Tryz.f265.name,by decide,Tryz.func265.trans (congrArg some (by kernel_rfl))⟩
 f26:=⟨Tryz.f266.name,by decide,Tryz.func266.trans (congrArg some (by kernel_rfl))⟩
 f27:=⟨Tryz.f267.name,by decide,Tryz.func267.trans (congrArg some (by kernel_rfl))⟩
 f28:=Tryz.func236.trans (congrArg some (by kernel_rfl))
 f29:=Tryz.func155.trans (congrArg some (by kernel_rfl))
 f46:=⟨Tryz.f291.name,by decide,Tryz.func291.trans (congrArg some (by kernel_rfl))⟩
 f47:=Tryz.func279.trans (congrArg some (by kernel_rfl))
 f48:=Tryz.func280.trans (congrArg some (by kernel_rfl))
 f49:=⟨Tryz.f292.name,by decide,Tryz.func292.trans (congrArg some (by kernel_rfl))⟩
 f50:=⟨Tryz.f293.name,by decide,Tryz.func293.trans (congrArg some (by kernel_rfl))⟩
 f57:=⟨Tryz.f302.name,by decide,Tryz.func302.trans (congrArg some (by kernel_rfl))⟩
 t0:=Tryz.underlying0
 a0:=Tryz.isAgg0
 z0:=Tryz.sizeOf0
 v0:=Tryz.zeroValue0
 t3:=Tryz.underlying3
 a3:=Tryz.isAgg3
 z3:=Tryz.sizeOf3
 v3:=Tryz.zeroValue3
 t4:=Tryz.underlying4
 a4:=Tryz.isAgg4
 z4:=Tryz.sizeOf4
 v4:=Tryz.zeroValue4
 t5:=Tryz.underlying5
 a5:=Tryz.isAgg5
 z5:=Tryz.sizeOf5
 v5:=Tryz.zeroValue5
 t9:=Tryz.underlying9
 a9:=Tryz.isAgg9
 z9:=Tryz.sizeOf9
 v9:=Tryz.zeroValue9
 t22:=Tryz.underlying55
 a22:=Tryz.isAgg55
 z22:=Tryz.sizeOf55
 v22:=Tryz.zeroValue55
 t25:=Tryz.underlying238
 a25:=Tryz.isAgg238
 z25:=Tryz.sizeOf238
 v25:=Tryz.zeroValue238
 t39:=Tryz.underlying258
 a39:=Tryz.isAgg258
 z39:=Tryz.sizeOf258
 v39:=Tryz.zeroValue258
 t45:=Tryz.underlying301
 a45:=Tryz.isAgg301
 z45:=Tryz.sizeOf301
 v45:=Tryz.zeroValue301
 t46:=Tryz.underlying302
 a46:=Tryz.isAgg302
 z46:=Tryz.sizeOf302
 v46:=Tryz.zeroValue302
 t50:=Tryz.underlying174
 a50:=Tryz.isAgg174
 z50:=Tryz.sizeOf174
 v50:=Tryz.zeroValue174
 t53:=Tryz.underlying308
 a53:=Tryz.isAgg308
 z53:=Tryz.sizeOf308
 v53:=Tryz.zeroValue308
 t55:=Tryz.underlying241
 a55:=Tryz.isAgg241
 z55:=Tryz.sizeOf241
 v55:=Tryz.zeroValue241
 t66:=Tryz.underlying335
 a66:=Tryz.isAgg335
 z66:=Tryz.sizeOf335
 v66:=Tryz.zeroValue335
 t70:=Tryz.underlying109
 a70:=Tryz.isAgg109
 z70:=Tryz.sizeOf109
 v70:=Tryz.zeroValue109
 t76:=Tryz.underlying349
 a76:=Tryz.isAgg349
 z76:=Tryz.sizeOf349
 v76:=Tryz.zeroValue349
 t77:=Tryz.underlying167
 a77:=Tryz.isAgg167
 z77:=Tryz.sizeOf167
 v77:=Tryz.zeroValue167 }
def v9a:Go.Shelf.Ren:=⟨fun|5=>122|7=>195|n=>n,fun|22=>3|3=>3|4=>4|n=>n,fun|n=>n⟩
theorem waa:Go.Proofs.SlLaysC2.n5 Tryz.prog v9a:={
 mixed:=by kernel_rfl
 f5:=⟨Tryz.f122.name,by decide,Tryz.func122.trans (congrArg some (by kernel_rfl))⟩
 f7:=⟨Tryz.f195.name,by decide,Tryz.func195.trans (congrArg some (by kernel_rfl))⟩
 t3:=Tryz.underlying3
 a3:=Tryz.isAgg3
 z3:=Tryz.sizeOf3
 v3:=Tryz.zeroValue3
 t4:=Tryz.underlying4
 a4:=Tryz.isAgg4
 z4:=Tryz.sizeOf4
 v4:=Tryz.zeroValue4
 t22:=Tryz.underlying3
 a22:=Tryz.isAgg3
 z22:=Tryz.sizeOf3
 v22:=Tryz.zeroValue3 }
open Go.RowKit Go.Lib Go.Sort
instance:Inhabited Spn:=⟨⟨0,0⟩⟩
def vA(x:Spn):List Value:=[.int .i64 x.from_,.int .i64 x.to_]
set_option maxHeartbeats 1000000 in
theorem Z0a(x y:Spn)(W:World):Calls Tryz.prog 153 #[.agg #[.int .i64 x.from_,.int .i64 x.to_],.agg #[.int .i64 y.from_,.int .i64 y.to_]] W λe w'=>e= .returned (.int .i64 (Lib.compareInt x.from_ y.from_))/\∃q b,w'=grow (W.drewN q) b:=by
 have a:=λc=>AnyG.cmp_Compare_int waa x.from_ y.from_ c
 change ∀c,Calls Tryz.prog 122 _ _ _ at a
 generalize Lib.compareInt x.from_ y.from_=r at a⊢
 go_enter Tryz.func153,Tryz.ntmps153
 go_wp2_with (go_at_call 122;refine(a _).mono ?_;rintro e w' ⟨rfl,rfl⟩)
 go_ret
 exact⟨rfl,0,_,by rw[alloc_eq_grow,alloc_eq_grow,grow_grow];rfl⟩
theorem Z1a(blk off size:Nat)(w:World):CmpLays Tryz.prog 153 #[] vA 2 (λx y=>Lib.compareInt x.from_ y.from_) blk off size w:=
 λ_ _ _ _ x y=>Z0a x y _
theorem ypa(x y:Spn):ltOf (λx y:Spn=>Lib.compareInt x.from_ y.from_) x y=decide (x.from_<y.from_):=by
 unfold ltOf Lib.compareInt
 by_cases a:x.from_<y.from_
 ·simp[a]
 ·by_cases b:y.from_<x.from_<;>simp[a,b]
theorem YGa:SWO (ltOf λx y:Spn=>Lib.compareInt x.from_ y.from_):=
 { irrefl:=λx=>by rw[ypa];simp
   trans:=λx y z b a=>by rw[ypa] at *; simp at *; omega
   ntrans:=λx y z b a=>by rw[ypa] at *; simp at *; omega }
theorem Vga(blk off cap:Nat)(d:Array Spn)(w:World)(h:HoldsK vA 2 w blk off d)(a:blk<w.heap.size)(f:d.size<4611686018427387904):
  Calls Tryz.prog 152 #[.slice (some ⟨blk,off,none⟩) d.size cap,.func (.func 153) #[] #[]] w λe w'=>e= .returned (.tuple #[])/\∃c n os,PermIn 0 d.size d c/\SortedIn (ltOf λx y:Spn=>Lib.compareInt x.from_ y.from_) 0 d.size c/\w'=sortWorldK vA 2 w blk off n c os:=by
 have i:∀args w,(callFunc 153 args).run Tryz.prog w= .ok (.enter 153 args) w:=enters_of Tryz.func153 (by kernel_rfl) rfl
 have b:=AnyQ.slices_SortFunc x5a 2 Tryz.isAgg143 Tryz.sizeOf143 vA (λ_=>rfl) (λx v g=>by simp[vA] at g;rcases g with rfl|rfl<;>rfl) (λx y=>Lib.compareInt x.from_ y.from_) YGa 153 #[] blk off cap d w i (Z1a blk off d.size w) h a f
 exact b
theorem x6a(A:Option Addr)(cap:Nat)(b:Value)(w:World):Calls Tryz.prog 152 #[.slice A 0 cap,b] w λe w'=>e= .returned (.tuple #[])/\w'=w:=by
 have a:=AnyF.slices_SortFunc_none x5a A cap b w
 exact a
def Ql(l:List Spn):List Value:=(l.map vA).flatten
theorem VD:∀l:List Spn,(Ql l).length=l.length*2
 | []=>rfl
 | x::l=>by
   have:=VD l
   simp only[Ql,List.map_cons,List.flatten_cons,ze,vA,List.length_cons,List.length_nil] at this⊢
   omega
theorem YP:∀(l:List Spn) (t:Nat),t<l.length*2->(Ql l)[t]? =some ((vA l.toArray[t / 2]!)[t % 2]!)
 | [],t,h=>by simp at h
 | x::l,0,_=>by simp[Ql,vA]
 | x::l,1,_=>by simp[Ql,vA]
 | x::l,t+2,h=>by
   have:=YP l t (by simp at h;omega)
   have a:(t+2) / 2=t / 2+1:=by omega
   have b:(t+2) % 2=t % 2:=by omega
   have c:(Ql (x::l))[t+2]? =(Ql l)[t]? :=by simp[Ql,vA]
   rw[c,this,a,b]
   simp
theorem wba(l:List Spn):(flatK vA 2 l.toArray).toList=Ql l:=by
 apply qP
 intro t
 by_cases a:t<l.length*2
 ·rw[YP l t a]
  simp[flatK,a]
 ·rw[qA (by simp;omega),qA (by rw[VD];omega)]
theorem YQ:∀l:List Spn,(l.map qE).flatten=(Ql l).map .v
 | []=>rfl
 | x::l=>by
   have:=YQ l
   simp only[Ql,List.map_cons,List.flatten_cons,zy] at this⊢
   rw[this]
   rfl
theorem KS{c:Ctx}:∀ {vs us:List Value},ARs c (vs.map .v) us->us=vs
 | [],_,h=>h
 | v::vs,us,⟨u,r,d,a,b⟩=>by
   have a:u=v:=a
   rw[d,a,KS b]
theorem YR(w:World)(blk n:Nat)(F:Array Value)(os:Array Obj){cur:Array Value}{e:TypeId}{b:Nat × Nat}(c:w.heap[blk]? =some (.cells cur e b)):
  (grow (putRow id (Sort.ahead w n) blk 0 F) os).heap[blk]? =some (.cells (putCells id 0 F cur) e b):=by
 have a:=(qx.1 c).1
 simp only[grow,putRow,mapBlock,Sort.ahead]
 rw[Array.getElem?_append_left (by simpa using a)]
 simp[Array.getElem?_modify,c,onCells]
theorem VE(w:World)(blk n:Nat)(F:Array Value)(os:Array Obj):w.grownBy (grow (putRow id (Sort.ahead w n) blk 0 F) os) (some blk):=by
 refine⟨rfl,rfl,rfl,by simp[grow,putRow,mapBlock,Sort.ahead],λk b a=>?_⟩
 simp only[grow,putRow,mapBlock,Sort.ahead]
 rw[Array.getElem?_append_left (by simpa using b),Array.getElem?_modify,if_neg (λe=>a (by rw[e]))]
theorem YS(F cur:Array Value)(h:F.size<=cur.size):(putCells id 0 F cur).toList.take F.size=F.toList:=by
 apply qP
 intro t
 by_cases b:t<F.size
 ·have a:t<cur.size:=by omega
  simp[putCells,jr,b,a]
 ·rw[qA (by simp;omega),qA (by simp;omega)]
theorem c93(h:List Ob)(id st:Nat)(l:List Spn)(F:h[id]? =some (.row 143 2 (l.map qE) st))(hl:l.length<1099511627776):
  ACalls Tryz.prog 152 [.tl id st,.fn (.func 153) [] []] h λr h'=>r= .tup []/\∃l':List Spn,l'.Perm l/\l'.Pairwise leS/\h'=h.set id (.row 143 2 (l'.map qE) st):=by
 refine⟨by kernel_rfl,⟨_,_,⟨rfl,_,List.mergeSort_perm l (λa b=>decide (a.from_<=b.from_)),?_,rfl⟩,qj F rfl⟩,?_⟩
 ·have:=List.pairwise_mergeSort (le:=λa b:Spn=>decide (a.from_<=b.from_)) (λa b c h1 h2=>by simp at *; omega) (λa b=>by simp;omega) l
  exact this.imp λh=>by simpa [leS] using h
 ·intro φ hu B w g vs P hB y
  have t:(fill φ h)[id]? =some (.row 143 2 (l.map qE) st):=qy F rfl
  obtain⟨v1,r1,rfl,⟨_,K,z⟩,v2,r2,rfl,⟨us,vs,rfl,q,p⟩,L⟩:=y
  have L:r2=[]:=L
  subst L
  have q:us.toList=[]:=q
  have p:vs.toList=[]:=p
  have q:us= #[]:=by simpa using q
  have p:vs= #[]:=by simpa using p
  subst q;subst p
  have R:v1=g.cur id:=(z st (by simp[ctx,t,Ob.tok])).2 rfl
  obtain⟨q0,q1,cells,U,V⟩:=P.ok id _ t
  rw[YQ] at V
  have e1:=KS V
  subst e1
  by_cases D:l=[]
  ·subst D
   have H:∃A k,g.cur id= .slice A 0 k:=by
    rcases U.2 with⟨f,_⟩|⟨v,cap,cur,f,_⟩
    ·exact⟨_,_,f⟩
    ·exact⟨_,_,f⟩
   obtain⟨A,k,H⟩:=H
   rw[R,H]
   refine(x6a A k _ w).mono ?_
   rintro e w' ⟨rfl,rfl⟩
   exact⟨_,_,_,_,rfl,⟨rfl,[],.refl _,.nil,(qM F).symm⟩,.refl,Good.refl P hB, #[],rfl,rfl⟩
  rcases U.2 with⟨_,f⟩|⟨v,cap,cur,f,W,G,N,Y,S,T⟩
  ·exfalso
   simp at f
   exact D f
  ·have f:g.cur id=_:=f
   simp only[zb] at f N T
   have M:l.length*2<=cur.size:=by rw[S];exact Nat.mul_le_mul_right _ N
   have O:∀j,j<l.length*2->cur[j]? =some ((vA l.toArray[j / 2]!)[j % 2]!):=λj s=>by
    rw[<-YP l j s, <-T,jr,if_pos s,qr]
   have hH:HoldsK vA 2 w v 0 l.toArray:=λj s=>by
    have s:j<l.length*2:=by simpa using s
    refine⟨?_,?_⟩
    ·simp only[World.cell?,G,Nat.zero_add]
     rw[get_flatK _ _ _ _ (by simpa using s)]
     exact O j s
    ·simp[World.frozen?,G]
   have m:=Vga v 0 cap l.toArray w hH (qx.1 G).1 (by simp;omega)
   rw[R,f]
   have J:l.toArray.size=l.length:=by simp
   rw[J] at m
   refine m.mono ?_
   rintro e w' ⟨rfl,d,n,os,Z,X,rfl⟩
   obtain⟨p1,p2,Q⟩:=Z
   have E:d.size=l.length:=by rw[p1];simp
   have u:d.toList.Perm l:=by
    have a1:d.extract 0 l.length=d:=by rw[<-E];simp
    have a2:l.toArray.extract 0 l.length=l.toArray:=by simp
    rw[a1,a2] at Q
    exact Q
   have x:d.toList.Pairwise leS:=by
    rw[List.pairwise_iff_getElem]
    intro i j hi s I
    simp only[qH] at hi s
    have:=X i j (by omega) I (by omega)
    rw[ypa,getElem!_pos d i hi,getElem!_pos d j s] at this
    simp at this
    simpa [leS] using this
   have hF:(flatK vA 2 d).toList=Ql d.toList:=wba d.toList
   have C:(flatK vA 2 d).size=l.length*2:=by simp[E]
   have o:=Qa (w':=sortWorldK vA 2 w v 0 n d os) (v':=g.cur id) (st':=st) (xs':=d.toList.map qE) (cells:=Ql d.toList) P hB t (by simp) (by rw[f];exact VE w v n _ os)
    ⟨by rw[VD];simp,.inr ⟨v,cap,_,by simp[f,E],W,YR w v n _ os G,by simp[E];exact N,Y,by simp[putCells];exact S,by
     have:=YS (flatK vA 2 d) cur (by rw[C];exact M)
     rw[hF,C] at this
     simpa [E] using this⟩⟩ (by rw[YQ];exact Jn _) (.inl ⟨rfl,rfl⟩) (λb hb=> .inl hb)
   rw[<-jc rfl] at o
   exact⟨_,_,_,_,rfl,⟨rfl,d.toList,u,x,rfl⟩,qj F rfl,o, #[],rfl,rfl⟩
theorem xpb(x:AV):xw Tryz.prog 152 [.v (.slice none 0 0),x] (.tup []):=λh=>by
 refine⟨by kernel_rfl,⟨_,_,⟨rfl,rfl⟩,.refl⟩,?_⟩
 intro φ j B w g vs i hB a
 obtain⟨v1,k,rfl,c,d,f,rfl,_,b⟩:=a
 have b:f=[]:=b
 subst b
 have c:v1= .slice none 0 0:=c
 subst c
 refine(x6a none 0 d w).mono ?_
 rintro e w' ⟨rfl,rfl⟩
 exact⟨_,_,_,_,rfl,⟨rfl,rfl⟩,.refl,Good.refl i hB, #[],rfl,rfl⟩
end Go.Proofs.YtigdlmpjijhpaaaGreat.Ax
namespace Go.Proofs.YtigdlmpjijhpaaaGreat.Ax
open Go Go.Proofs
set_option maxRecDepth 100000
theorem wca(l:List Spn)(x:Spn):xf (l++[x])=if(kx x).from_<(kx x).to_ then xf l++[kx x] else xf l:=by
 unfold xf
 rw[zy,q8]
 by_cases h:(kx x).from_<(kx x).to_
 ·simp[h]
 ·simp[h]
set_option maxHeartbeats 1000000 in
theorem c65(h:List Ob)(x:AV)(l:List Spn)(hx:SlOf h x 2 (l.map qE))(hl:l.length<1099511627776):
  ACalls Tryz.prog 70 [x] h λr h'=>∃L,h'=h++L/\NoRes L/\New h 2 r ((qw l).map qE) L:=by
 have hex:∃r h',(∃L,h'=h++L/\NoRes L/\New h 2 r ((qw l).map qE) L)/\ResK h h':=
  ⟨.sl 2 _,_,⟨[],rfl,jf,λ_ _=>⟨rfl,λ_=>rfl⟩⟩,qS⟩
 refine zj Tryz.f70 [.tmp 2] 76 rfl rfl rfl rfl rfl rfl (by decide) (hex) λB=>?_
 rw[xG,xG,xG]
 refine QK (λT h'=>Pre h h'/\∃l':List Spn,OwnS h h' 143 2 (T 3) (l'.map qE)/\l'.Perm (xf l)/\l'.Pairwise leS) ?_ ?_
 ·simp only[go_sem,hx.rows,zb]
  refine zP (by decide) (λm T h'=>∃k:Nat,k<=l.length/\Pre h h'/\OwnS h h' 143 2 (T 3) ((xf (l.take k)).map qE)/\T 10=x/\T 11=i64 l.length/\T 12=i64 k/\m=l.length - k) l.length
   ⟨0,by omega,Pre.refl,.inl ⟨by simp only[go_sem],rfl⟩,by simp only[go_sem],by simp only[go_sem],by(simp only[go_sem]<;>rfl),rfl⟩ ?_
  rintro m T h' ⟨k,hk,g,G,t10,I,C,rfl⟩
  simp only[go_sem,I,C]
  refine ways (λe=>?_) (λe=>?_)
  ·have f:=dlt e
   have θ:SlOf h' x 2 (l.map qE):=by
    obtain⟨L,rfl,_⟩:=g
    exact hx.app _
   have υ:=θ.at (i:=k) (by simpa using f)
   have d:(l.map qE)[k]? =some (qE l[k]):=by rw[zx,zi f];rfl
   have H:(k:Int)<l.length:=by omega
   have a:=wca (l.take k) l[k]
   rw[zI f] at a
   obtain⟨y,hy⟩:∃y,y=l[k]:=⟨_,rfl⟩
   rw[<-hy] at d a
   have fin:k+1<=l.length:=by omega
   have hA:List.length (qE y)=2:=rfl
   simp only[go_sem,t10,C,υ,θ.rows,d,H,zb,Int.toNat_natCast,zh,QM,QL]
   refine ways (λn=>?_) (λn=>?_)
   ·have n:(kx y).from_<(kx y).to_:=by simpa [kx] using n
    rw[if_pos n] at a
    rcases G with⟨t3,R⟩|⟨id,st,P,t3,O⟩
    ·simp only[go_sem,t3,C]
     refine⟨l.length - (k+1),by omega,k+1,fin,g.app (zr rfl (zr rfl (zG rfl))),.inr ⟨_,_,by have:=g.len;omega,rfl,?_⟩,t10,I,qm (by omega) rfl,rfl⟩
     rw[a,zy,R,zK rfl]
     rfl
    ·have K:((xf (l.take k)).map qE).length+1<=1099511627776:=by
      have:=Xh (l.take k)
      rw[qa] at this
      rw[zb];omega
     have K:(((xf (l.take k)).map qE).length+1)*17<=140737488355328:=by omega
     have t:∀M,(h'++M)[id]? =some (.row 143 2 ((xf (l.take k)).map qE) st):=λM=>zf O
     simp only[go_sem,t3,C,t,K]
     refine⟨l.length - (k+1),by omega,k+1,fin,(g.app (zr rfl (zG rfl))).set P rfl,.inr ⟨id,st+1,P,rfl,?_⟩,t10,I,qm (by omega) rfl,rfl⟩
     rw[a,zy]
     exact zq (t _)
   ·have n:¬ (kx y).from_<(kx y).to_:=by simpa [kx] using n
    rw[if_neg n] at a
    simp only[go_sem,C]
    exact⟨l.length - (k+1),by omega,k+1,fin,g.app (zG rfl),by rw[a];exact G.app _,t10,I,qm (by omega) rfl,rfl⟩
  ·have ω:=xb e
   have Y:k=l.length:=by omega
   subst Y
   rw[zZ] at G
   rcases G with⟨t3,R⟩|⟨id,st,P,t3,O⟩
   ·simp only[go_sem,t3]
    refine zg (xpb _ _) ?_
    rintro _ h4 ⟨rfl,e1⟩
    subst e1
    simp only[go_sem]
    exact⟨g,[],.inl ⟨t3,rfl⟩,by rw[show xf l=[] by simpa using R],.nil⟩
   ·simp only[go_sem,t3]
    refine zg (c93 _ id st (xf l) O (by have:=Xh l;omega)) ?_
    rintro _ h4 ⟨rfl,l',p1,p2,rfl⟩
    simp only[go_sem]
    exact⟨g.set P rfl,l',.inr ⟨id,st,P,t3,zq O⟩,p1,p2⟩
 ·rintro T h' ⟨g,l',G,w,α⟩
  have V:=ZXa w α
  have hlen:l'.length<=l.length:=by rw[w.length_eq];exact Xh l
  simp only[go_sem,G.rows.rows,zb]
  refine zP (by decide) (λm Q h'=>∃(k:Nat) (out:List Spn),k<=l'.length/\Pre h h'/\OwnS h h' 143 2 (T 3) (l'.map qE)/\OwnS h h' 143 2 (Q 6) (out.map qE)/\(∀i1 s1 i2 s2,T 3= .tl i1 s1->Q 6= .tl i2 s2->i1≠i2)/\out.length<=k/\((k=0/\out=[]/\Q 6= .v (.slice none 0 0))∨∃D c,out=D++[c]/\0<k/\ZB l'=D++vc c (l'.drop k))/\Q 35=T 3/\Q 36=i64 l'.length/\Q 37=i64 k/\m=l'.length - k) l'.length
   ⟨0,[],by omega,g,G,.inl ⟨by simp only[go_sem],rfl⟩,(λ_ _ _ _ _ q=>by simp only[go_sem] at q),zn _,.inl ⟨rfl,rfl,by simp only[go_sem]⟩,by simp only[go_sem],by simp only[go_sem],by(simp only[go_sem]<;>rfl),rfl⟩ ?_
  obtain⟨y,hy⟩:∃y,y=T 3:=⟨_,rfl⟩
  rw[<-hy]
  clear G g
  rintro m Q h' ⟨k,out,hk,g,G,hu,η,J,hj,E,N,o,rfl⟩
  simp only[go_sem,N,o]
  refine ways (λe=>?_) (λe=>?_)
  ·have f:=dlt e
   have d:(l'.map qE)[k]? =some (qE l'[k]):=by rw[zx,zi f];rfl
   have b:l'.drop k=l'[k]::l'.drop (k+1):=qI f
   rcases G with⟨_,R⟩|⟨id,st,P,j,O⟩
   ·rw[List.map_eq_nil_iff] at R
    rw[R] at f;simp at f
   have t:∀M,(h'++M)[id]? =some (.row 143 2 (l'.map qE) st):=λM=>zf O
   have H:(k:Int)<l'.length:=by omega
   obtain⟨z,hz⟩:∃z,z=l'[k]:=⟨_,rfl⟩
   rw[<-hz] at d b
   rcases hj with⟨U,rfl,t6⟩|⟨D,c,rfl,U,hm⟩
   ·simp only[go_sem,E,j,o,t6,O,t,d,H,zb,Int.toNat_natCast,zh]
    refine zV rfl [] 0 [(0,0,[]),(1,0,[]),(2,0,[]),(3,0,[]),(5,0,[]),(6,0,[]),(7,0,[]),(4,0,[]),(8,0,[]),(9,0,[]),(10,0,[]),(11,0,[]),(12,0,[])] rfl (by decide) (by decide) ?_
    have τ:decide ((0:Int)>0)=false:=rfl
    simp only[go_sem,E,j,o,t6,t,τ]
    have σ:=g.len
    have hid:id<h'.length:=(zd.1 O).1
    refine⟨l'.length - (k+1),by omega,k+1,[z],by omega,g.app (zr rfl (zr rfl (zG rfl))),.inr ⟨id,st,P,rfl,t _⟩,.inr ⟨_,_,by omega,rfl,by rw[zK rfl];rfl⟩,(λi1 s1 i2 s2 r1 Z=>?_),by simp,.inr ⟨[],z,rfl,by omega,?_⟩,N,qm (by omega) rfl,rfl⟩
    ·injection r1 with r1;injection Z with Z;omega
    ·rw[U,List.drop_zero] at b
     rw[b,U]
     rfl
   ·have ε:wr (((D.length+1:Nat):Int) - 1)=(D.length:Int):=by
     rw[qp (by simp at J;unfold Fit;omega)];omega
    have ψ:decide (((D.length+1:Nat):Int)>0)=true:=by simp
    have u:((D++[c]).map qE).length=D.length+1:=by simp
    have S:((D++[c]).map qE)[D.length]? =some (qE c):=by simp
    have κ:(D.length:Int)<((D.length+1:Nat):Int):=by omega
    obtain⟨out,A⟩:∃out,out=(D++[c]).map qE:=⟨_,rfl⟩
    rcases hu with⟨_,R⟩|⟨W,X,u1,s,u3⟩
    ·simp at R
    have ν:=η _ _ _ _ j s
    rw[<-A] at u3 u S
    have p:∀M,(h'++M)[W]? =some (.row 143 2 out X):=λM=>zf u3
    simp only[go_sem,E,j,o,s,O,u3,t,p,d,H,u,zb,Int.toNat_natCast,zh]
    refine zV rfl [] 0 [(0,0,[]),(1,0,[]),(2,0,[]),(3,0,[]),(5,0,[]),(6,0,[]),(7,0,[]),(4,0,[]),(8,0,[]),(9,0,[]),(10,0,[]),(11,0,[]),(12,0,[])] rfl (by decide) (by decide) ?_
    simp only[go_sem,s,t,p,ψ,ε,S,u,κ,Int.toNat_natCast,zh]
    refine ways (λn=>?_) (λn=>?_)
    ·have n:z.from_<=c.to_:=by simpa using n
     simp only[go_sem]
     refine zV rfl [] 0 [(0,0,[]),(1,0,[]),(2,0,[]),(3,0,[]),(4,0,[]),(5,0,[]),(9,0,[]),(6,0,[]),(7,0,[]),(8,0,[]),(10,0,[]),(11,0,[]),(12,0,[]),(13,0,[]),(14,0,[])] rfl (by decide) (by decide) ?_
     simp only[go_sem,s,t,p,ε,S,u,κ,Int.toNat_natCast,zh,QM,o]
     obtain⟨c2,ζ⟩:∃c2:Spn,c2=⟨c.from_,max c.to_ z.to_⟩:=⟨_,rfl⟩
     have F:out.set D.length [i64 c.from_,i64 (max c.to_ z.to_)]=(D++[c2]).map qE:=by
      rw[A,ζ];simp
     rw[F]
     refine⟨l'.length - (k+1),by omega,k+1,D++[c2],by omega,(g.app (zG rfl)).set u1 rfl,.inr ⟨id,st,P,rfl,?_⟩,.inr ⟨W,X,u1,rfl,zq (p _)⟩,(λi1 s1 i2 s2 r1 Z=>η i1 s1 i2 s2 (j.trans r1) (s.trans Z)),by simp at J ⊢;omega,.inr ⟨D,_,rfl,by omega,?_⟩,by rw[E,j],N,qm (by omega) rfl,rfl⟩
     ·rw[zc (Ne.symm ν)];exact t _
     ·rw[hm,b,vc,if_pos n,ζ]
    ·have n:¬ z.from_<=c.to_:=by simpa using n
     have K:(out.length+1)*17<=140737488355328:=by rw[u];simp at J;omega
     simp only[go_sem,s,t,p,K,o]
     have F:out++[[i64 z.from_,i64 z.to_]]=((D++[c])++[z]).map qE:=by
      rw[A];simp
     rw[F]
     refine⟨l'.length - (k+1),by omega,k+1,(D++[c])++[z],by omega,(g.app (zr rfl (zG rfl))).set u1 rfl,.inr ⟨id,st,P,rfl,?_⟩,.inr ⟨W,X+1,u1,rfl,zq (p _)⟩,(λi1 s1 i2 s2 r1 Z=>?_),by simp at J ⊢;omega,.inr ⟨D++[c],z,rfl,by omega,?_⟩,by rw[E,j],N,qm (by omega) rfl,rfl⟩
     ·rw[zc (Ne.symm ν)];exact t _
     ·injection r1 with r1;injection Z with Z;omega
     ·rw[hm,b,vc,if_neg n,zp]
      rfl
  ·have ω:=xb e
   have Y:k=l'.length:=by omega
   have ι:out=ZB l':=by
    rcases hj with⟨h0,h1,_⟩|⟨D,c,h0,_,h1⟩
    ·have:l'=[]:=List.length_eq_zero_iff.1 (by omega)
     rw[h1,this];rfl
    ·rw[h1,h0,Y,List.drop_length];simp[vc]
   subst ι
   simp only[go_sem]
   obtain⟨L,rfl,hN⟩:=g
   exact⟨Q 6,by simp only[go_sem],.inl ⟨L,rfl,hN,by rw[<-V];exact hu.new (zn _)⟩⟩
open Go.RowKit Go.Lib
theorem yqa(A:Option Addr)(n k:Nat)(a:n<=k)(w:World):Calls Tryz.prog 154 #[.slice A n k] w λe w'=>(e= .returned (.slice A n n)/\w'=w):=by
 have c:(n:Int)<=(k:Int):=by omega
 have b:(0:Int)<=(n:Int):=by omega
 go_enter Tryz.func154,Tryz.ntmps154
 go_wp2
 go_ret
 exact⟨rfl,rfl⟩
theorem c96(h:List Ob)(id st:Nat)(rows:List (List AV))(d:h[id]? =some (.row 143 2 rows st)):ACalls Tryz.prog 154 [.tl id st] h λr h'=>r= .sl 2 rows/\h'=h.set id .gone:=by
 refine⟨by kernel_rfl,⟨_,_,⟨rfl,rfl⟩,qj d rfl⟩,?_⟩
 intro φ m B w g vs l hB b
 obtain⟨v1,j,rfl,i,c⟩:=b
 have c:j=[]:=c
 subst c
 obtain⟨k1,k2⟩:=Ju l hB (qy d rfl)
 rw[<-jc rfl] at k1 k2
 obtain⟨A,k,rfl,f,a⟩:=k2 _ i
 refine(yqa A rows.length k f w).mono ?_
 rintro e w' ⟨rfl,rfl⟩
 exact⟨_,_,_,_,rfl,⟨rfl,rfl⟩,qj d rfl,k1,A,rows.length,rfl,zn _,a⟩
theorem xqb:xw Tryz.prog 154 [.v (.slice none 0 0)] (.v (.slice none 0 0)):=λh=>by
 refine⟨by kernel_rfl,⟨_,_,⟨rfl,rfl⟩,.refl⟩,?_⟩
 intro φ i B w g vs f hB a
 obtain⟨v1,d,rfl,c,b⟩:=a
 have b:d=[]:=b
 subst b
 have c:v1= .slice none 0 0:=c
 subst c
 refine(yqa none 0 0 (zn _) w).mono ?_
 rintro e w' ⟨rfl,rfl⟩
 exact⟨_,_,_,_,rfl,⟨rfl,rfl⟩,.refl,Good.refl f hB,rfl⟩
