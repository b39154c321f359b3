/-
  Joined.
-/
import Derived.Test.YtigdlmpjijhpaaaGreatK11
import Derived.Shelf.SlSortCmp.WholeK
import Derived.Shelf.SlSortCmp.NoneTotal
import Derived.Shelf.SlicesG.Cmp
import Derived.Test.YtigdlmpjijhpaaaGreatK20
import Derived.Test.YtigdlmpjijhpaaaGreatK21
set_option linter.unusedSimpArgs false
set_option linter.unusedVariables false
namespace Go.Proofs.YtigdlmpjijhpaaaGreat.Ax
open Go Go.Proofs Go.Shelf
def V1:Go.Shelf.Ren:=⟨fun | 6=>152 | 15=>175 | 14=>220 | 28=>236 | 29=>155 | 20=>260 | 21=>261 | 22=>262 | 23=>263 | 24=>264 | 25=>265 | 26=>266 | 27=>267 | 46=>291 | 47=>279 | 48=>280 | 49=>292 | 50=>293 | 57=>302 | n=>n,fun | 22=>55 | 24=>143 | 25=>238 | 3=>3 | 39=>258 | 0=>0 | 53=>308 | 55=>241 | 4=>4 | 46=>302 | 45=>301 | 50=>174 | 5=>5 | 9=>9 | 66=>335 | 70=>109 | 76=>349 | 77=>167 | n=>n,fun | n=>n⟩
theorem W8:Go.Proofs.SlLaysF0.n6 Tryz.prog V1:={
 mixed:=by kernel_rfl
 f6:=⟨Tryz.f152.name,by decide,Tryz.func152.trans (congrArg some (by kernel_rfl))⟩
 f14:=⟨Tryz.f220.name,by decide,Tryz.func220.trans (congrArg some (by kernel_rfl))⟩
 f15:=Tryz.func175.trans (congrArg some (by kernel_rfl))
 f20:=⟨Tryz.f260.name,by decide,Tryz.func260.trans (congrArg some (by kernel_rfl))⟩
 f21:=⟨Tryz.f261.name,by decide,Tryz.func261.trans (congrArg some (by kernel_rfl))⟩
 f22:=⟨Tryz.f262.name,by decide,Tryz.func262.trans (congrArg some (by kernel_rfl))⟩
 f23:=⟨Tryz.f263.name,by decide,Tryz.func263.trans (congrArg some (by kernel_rfl))⟩
 f24:=⟨Tryz.f264.name,by decide,Tryz.func264.trans (congrArg some (by kernel_rfl))⟩
 f25:=⟨Tryz.f265.name,by decide,Tryz.func265.trans (congrArg some (by kernel_rfl))⟩
 f26:=⟨Tryz.f266.name,by decide,Tryz.func266.trans (congrArg some (by kernel_rfl))⟩
 f27:=⟨Tryz.f267.name,by decide,Tryz.func267.trans (congrArg some (by kernel_rfl))⟩
 f28:=Tryz.func236.trans (congrArg some (by kernel_rfl))
 f29:=Tryz.func155.trans (congrArg some (by kernel_rfl))
 f46:=⟨Tryz.f291.name,by decide,Tryz.func291.trans (congrArg some (by kernel_rfl))⟩
 f47:=Tryz.func279.trans (congrArg some (by kernel_rfl))
 f48:=Tryz.func280.trans (congrArg some (by kernel_rfl))
 f49:=⟨Tryz.f292.name,by decide,Tryz.func292.trans (congrArg some (by kernel_rfl))⟩
 f50:=⟨Tryz.f293.name,by decide,Tryz.func293.trans (congrArg some (by kernel_rfl))⟩
 f57:=⟨Tryz.f302.name,by decide,Tryz.func302.trans (congrArg some (by kernel_rfl))⟩
 t0:=Tryz.underlying0
 a0:=Tryz.isAgg0
 z0:=Tryz.sizeOf0
 v0:=Tryz.zeroValue0
 t3:=Tryz.underlying3
 a3:=Tryz.isAgg3
 z3:=Tryz.sizeOf3
 v3:=Tryz.zeroValue3
 t4:=Tryz.underlying4
 a4:=Tryz.isAgg4
 z4:=Tryz.sizeOf4
 v4:=Tryz.zeroValue4
 t5:=Tryz.underlying5
 a5:=Tryz.isAgg5
 z5:=Tryz.sizeOf5
 v5:=Tryz.zeroValue5
 t9:=Tryz.underlying9
 a9:=Tryz.isAgg9
 z9:=Tryz.sizeOf9
 v9:=Tryz.zeroValue9
 t22:=Tryz.underlying55
 a22:=Tryz.isAgg55
 z22:=Tryz.sizeOf55
 v22:=Tryz.zeroValue55
 t25:=Tryz.underlying238
 a25:=Tryz.isAgg238
 z25:=Tryz.sizeOf238
 v25:=Tryz.zeroValue238
 t39:=Tryz.underlying258
 a39:=Tryz.isAgg258
 z39:=Tryz.sizeOf258
 v39:=Tryz.zeroValue258
 t45:=Tryz.underlying301
 a45:=Tryz.isAgg301
 z45:=Tryz.sizeOf301
 v45:=Tryz.zeroValue301
 t46:=Tryz.underlying302
 a46:=Tryz.isAgg302
 z46:=Tryz.sizeOf302
 v46:=Tryz.zeroValue302
 t50:=Tryz.underlying174
 a50:=Tryz.isAgg174
 z50:=Tryz.sizeOf174
 v50:=Tryz.zeroValue174
 t53:=Tryz.underlying308
 a53:=Tryz.isAgg308
 z53:=Tryz.sizeOf308
 v53:=Tryz.zeroValue308
 t55:=Tryz.underlying241
 a55:=Tryz.isAgg241
 z55:=Tryz.sizeOf241
 v55:=Tryz.zeroValue241
 t66:=Tryz.underlying335
 a66:=Tryz.isAgg335
 z66:=Tryz.sizeOf335
 v66:=Tryz.zeroValue335
 t70:=Tryz.underlying109
 a70:=Tryz.isAgg109
 z70:=Tryz.sizeOf109
 v70:=Tryz.zeroValue109
 t76:=Tryz.underlying349
 a76:=Tryz.isAgg349
 z76:=Tryz.sizeOf349
 v76:=Tryz.zeroValue349
 t77:=Tryz.underlying167
 a77:=Tryz.isAgg167
 z77:=Tryz.sizeOf167
 v77:=Tryz.zeroValue167 }
def zMa:Go.Shelf.Ren:=⟨fun | 5=>122 | 7=>195 | n=>n,fun | 22=>3 | 3=>3 | 4=>4 | n=>n,fun | n=>n⟩
theorem kQa:Go.Proofs.SlLaysC2.n5 Tryz.prog zMa:={
 mixed:=by kernel_rfl
 f5:=⟨Tryz.f122.name,by decide,Tryz.func122.trans (congrArg some (by kernel_rfl))⟩
 f7:=⟨Tryz.f195.name,by decide,Tryz.func195.trans (congrArg some (by kernel_rfl))⟩
 t3:=Tryz.underlying3
 a3:=Tryz.isAgg3
 z3:=Tryz.sizeOf3
 v3:=Tryz.zeroValue3
 t4:=Tryz.underlying4
 a4:=Tryz.isAgg4
 z4:=Tryz.sizeOf4
 v4:=Tryz.zeroValue4
 t22:=Tryz.underlying3
 a22:=Tryz.isAgg3
 z22:=Tryz.sizeOf3
 v22:=Tryz.zeroValue3 }
end Go.Proofs.YtigdlmpjijhpaaaGreat.Ax
namespace Go.Proofs.YtigdlmpjijhpaaaGreat.Ax
open Go Go.Proofs Go.Shelf Go.RowKit Go.Lib Go.Sort
instance:Inhabited Spn:=⟨⟨0,0⟩⟩
def jY (x:Spn):List Value:=[.int .i64 x.from_,.int .i64 x.to_]
set_option maxHeartbeats 1000000 in
theorem j1a (x y:Spn) (W:World):Calls Tryz.prog 153 #[.agg #[.int .i64 x.from_,.int .i64 x.to_],.agg #[.int .i64 y.from_,.int .i64 y.to_]] W λe w'=>e= .returned (.int .i64 (Lib.compareInt x.from_ y.from_))/\∃q b,w'=grow (W.drewN q) b:=by
 have a:=λc=>AnyG.cmp_Compare_int kQa x.from_ y.from_ c
 change ∀c,Calls Tryz.prog 122 _ _ _ at a
 generalize Lib.compareInt x.from_ y.from_=r at a⊢
 go_enter Tryz.func153,Tryz.ntmps153
 go_wp2_with (go_at_call 122;refine (a _).mono ?_;rintro e w' ⟨rfl,rfl⟩)
 go_ret
 exact ⟨rfl,0,_,by rw[alloc_eq_grow,alloc_eq_grow,grow_grow];rfl⟩
theorem j2a (blk off size:Nat) (w:World):CmpLays Tryz.prog 153 #[] jY 2 (λx y=>Lib.compareInt x.from_ y.from_) blk off size w:=
 λ_ _ _ _ x y=>j1a x y _
theorem qHa (x y:Spn):ltOf (λx y:Spn=>Lib.compareInt x.from_ y.from_) x y=decide (x.from_<y.from_):=by
 unfold ltOf Lib.compareInt
 by_cases a:x.from_<y.from_
 ·simp[a]
 ·by_cases b:y.from_<x.from_<;>simp[a,b]
theorem Zra:SWO (ltOf λx y:Spn=>Lib.compareInt x.from_ y.from_):=
 { irrefl:=λx=>by rw[qHa];simp
   trans:=λx y z a b=>by rw[qHa] at *; simp at *; omega
   ntrans:=λx y z a b=>by rw[qHa] at *; simp at *; omega }
theorem wBa (blk off cap:Nat) (d:Array Spn) (w:World) (h:HoldsK jY 2 w blk off d) (b:blk<w.heap.size) (f:d.size<4611686018427387904):
  Calls Tryz.prog 152 #[.slice (some ⟨blk,off,none⟩) d.size cap,.func (.func 153) #[] #[]] w λe w'=>e= .returned (.tuple #[])/\∃c n os,PermIn 0 d.size d c/\SortedIn (ltOf λx y:Spn=>Lib.compareInt x.from_ y.from_) 0 d.size c/\w'=sortWorldK jY 2 w blk off n c os:=by
 have i:∀args w,(callFunc 153 args).run Tryz.prog w= .ok (.enter 153 args) w:=enters_of Tryz.func153 (by kernel_rfl) rfl
 have a:=AnyQ.slices_SortFunc W8 2 Tryz.isAgg143 Tryz.sizeOf143 jY (λ_=>rfl) (λx v g=>by simp[jY] at g;rcases g with rfl | rfl<;>rfl) (λx y=>Lib.compareInt x.from_ y.from_) Zra 153 #[] blk off cap d w i (j2a blk off d.size w) h b f
 exact a
theorem W9 (A:Option Addr) (cap:Nat) (b:Value) (w:World):Calls Tryz.prog 152 #[.slice A 0 cap,b] w λe w'=>e= .returned (.tuple #[])/\w'=w:=by
 have a:=AnyF.slices_SortFunc_none W8 A cap b w
 exact a
def wJ (l:List Spn):List Value:=(l.map jY).flatten
theorem QY:∀l:List Spn,(wJ l).length=l.length*2
 | []=>rfl
 | x::l=>by
   have:=QY l
   simp only[wJ,List.map_cons,List.flatten_cons,List.length_append,jY,List.length_cons,List.length_nil] at this⊢
   omega
theorem XL:∀(l:List Spn) (t:Nat),t<l.length*2->(wJ l)[t]? =some ((jY l.toArray[t / 2]!)[t % 2]!)
 | [],t,h=>by simp at h
 | x::l,0,_=>by simp[wJ,jY]
 | x::l,1,_=>by simp[wJ,jY]
 | x::l,t+2,h=>by
   have:=XL l t (by simp at h;omega)
   have a:(t+2) / 2=t / 2+1:=by omega
   have b:(t+2) % 2=t % 2:=by omega
   have c:(wJ (x::l))[t+2]? =(wJ l)[t]? :=by simp[wJ,jY]
   rw[c,this,a,b]
   simp
theorem zNa (l:List Spn):(flatK jY 2 l.toArray).toList=wJ l:=by
 apply List.ext_getElem?
 intro t
 by_cases a:t<l.length*2
 ·rw[XL l t a]
  simp[flatK,a]
 ·rw[List.getElem?_eq_none (by simp;omega),List.getElem?_eq_none (by rw[QY];omega)]
theorem XM:∀l:List Spn,(l.map zz).flatten=(wJ l).map .v
 | []=>rfl
 | x::l=>by
   have:=XM l
   simp only[wJ,List.map_cons,List.flatten_cons,List.map_append] at this⊢
   rw[this]
   rfl
theorem XN {c:Ctx}:∀ {vs us:List Value},ARs c (vs.map .v) us->us=vs
 | [],_,h=>h
 | v::vs,us,⟨u,r,b,a,d⟩=>by
   have a:u=v:=a
   rw[b,a,XN d]
theorem Ya (w:World) (blk n:Nat) (F:Array Value) (os:Array Obj) {cur:Array Value} {e:TypeId} {b:Nat × Nat} (c:w.heap[blk]? =some (.cells cur e b)):
  (grow (putRow id (Sort.ahead w n) blk 0 F) os).heap[blk]? =some (.cells (putCells id 0 F cur) e b):=by
 have a:=(Array.getElem?_eq_some_iff.1 c).1
 simp only[grow,putRow,mapBlock,Sort.ahead]
 rw[Array.getElem?_append_left (by simpa using a)]
 simp[Array.getElem?_modify,c,onCells]
theorem K8 (w:World) (blk n:Nat) (F:Array Value) (os:Array Obj):w.grownBy (grow (putRow id (Sort.ahead w n) blk 0 F) os) (some blk):=by
 refine ⟨rfl,rfl,rfl,by simp[grow,putRow,mapBlock,Sort.ahead],λk b a=>?_⟩
 simp only[grow,putRow,mapBlock,Sort.ahead]
 rw[Array.getElem?_append_left (by simpa using b),Array.getElem?_modify,if_neg (λe=>a (by rw[e]))]
theorem Yb (F cur:Array Value) (h:F.size<=cur.size):(putCells id 0 F cur).toList.take F.size=F.toList:=by
 apply List.ext_getElem?
 intro t
 by_cases a:t<F.size
 ·have b:t<cur.size:=by omega
  simp[putCells,List.getElem?_take,a,b]
 ·rw[List.getElem?_eq_none (by simp;omega),List.getElem?_eq_none (by simp;omega)]
theorem c93 (h:List Ob) (id st:Nat) (l:List Spn) (F:h[id]? =some (.row 143 2 (l.map zz) st)) (hl:l.length<1099511627776):
  ACalls Tryz.prog 152 [.tl id st,.fn (.func 153) [] []] h λr h'=>r= .tup []/\∃l':List Spn,l'.Perm l/\l'.Pairwise leS/\h'=h.set id (.row 143 2 (l'.map zz) st):=by
 refine ⟨by kernel_rfl,⟨_,_,⟨rfl,_,List.mergeSort_perm l (λa b=>decide (a.from_<=b.from_)),?_,rfl⟩,zK F rfl⟩,?_⟩
 ·have:=List.pairwise_mergeSort (le:=λa b:Spn=>decide (a.from_<=b.from_)) (λa b c h1 h2=>by simp at *; omega) (λa b=>by simp;omega) l
  exact this.imp λh=>by simpa [leS] using h
 ·intro φ hu B w g vs N hB u
  have y:(fill φ h)[id]? =some (.row 143 2 (l.map zz) st):=zM F rfl
  obtain ⟨v1,r1,rfl,⟨_,H,z⟩,v2,r2,rfl,⟨us,vs,rfl,p,m⟩,M⟩:=u
  have M:r2=[]:=M
  subst M
  have p:us.toList=[]:=p
  have m:vs.toList=[]:=m
  have p:us= #[]:=by simpa using p
  have m:vs= #[]:=by simpa using m
  subst p;subst m
  have R:v1=g.cur id:=(z st (by simp[ctx,y,Ob.tok])).2 rfl
  obtain ⟨q0,q1,cells,S,U⟩:=N.ok id _ y
  rw[XM] at U
  have X:=XN U
  subst X
  by_cases C:l=[]
  ·subst C
   have J:∃A k,g.cur id= .slice A 0 k:=by
    rcases S.2 with ⟨f,_⟩ | ⟨x,cap,cur,f,_⟩
    ·exact ⟨_,_,f⟩
    ·exact ⟨_,_,f⟩
   obtain ⟨A,k,J⟩:=J
   rw[R,J]
   refine (W9 A k _ w).mono ?_
   rintro e w' ⟨rfl,rfl⟩
   exact ⟨_,_,_,_,rfl,⟨rfl,[],.refl _,.nil,(zZ F).symm⟩,.refl,Good.refl N hB, #[],rfl,rfl⟩
  rcases S.2 with ⟨_,f⟩ | ⟨x,cap,cur,f,e4,G,O,e7,Q,V⟩
  ·exfalso
   simp at f
   exact C f
  ·have f:g.cur id=_:=f
   simp only[List.length_map] at f O V
   have K:l.length*2<=cur.size:=by rw[Q];exact Nat.mul_le_mul_right _ O
   have I:∀j,j<l.length*2->cur[j]? =some ((jY l.toArray[j / 2]!)[j % 2]!):=λj s=>by
    rw[<-XL l j s, <-V,List.getElem?_take,if_pos s,Array.getElem?_toList]
   have Z:HoldsK jY 2 w x 0 l.toArray:=λj s=>by
    have s:j<l.length*2:=by simpa using s
    refine ⟨?_,?_⟩
    ·simp only[World.cell?,G,Nat.zero_add]
     rw[get_flatK _ _ _ _ (by simpa using s)]
     exact I j s
    ·simp[World.frozen?,G]
   have o:=wBa x 0 cap l.toArray w Z (Array.getElem?_eq_some_iff.1 G).1 (by simp;omega)
   rw[R,f]
   have P:l.toArray.size=l.length:=by simp
   rw[P] at o
   refine o.mono ?_
   rintro e w' ⟨rfl,d,n,os,hp,hs,rfl⟩
   obtain ⟨p1,p2,W⟩:=hp
   have E:d.size=l.length:=by rw[p1];simp
   have t:d.toList.Perm l:=by
    have a1:d.extract 0 l.length=d:=by rw[<-E];simp
    have a2:l.toArray.extract 0 l.length=l.toArray:=by simp
    rw[a1,a2] at W
    exact W
   have v:d.toList.Pairwise leS:=by
    rw[List.pairwise_iff_getElem]
    intro i j T s L
    simp only[Array.length_toList] at T s
    have:=hs i j (by omega) L (by omega)
    rw[qHa,getElem!_pos d i T,getElem!_pos d j s] at this
    simp at this
    simpa [leS] using this
   have Y:(flatK jY 2 d).toList=wJ d.toList:=zNa d.toList
   have D:(flatK jY 2 d).size=l.length*2:=by simp[E]
   have q:=Qc (w':=sortWorldK jY 2 w x 0 n d os) (v':=g.cur id) (st':=st) (xs':=d.toList.map zz) (cells:=wJ d.toList) N hB y (by simp) (by rw[f];exact K8 w x n _ os)
    ⟨by rw[QY];simp,.inr ⟨x,cap,_,by simp[f,E],e4,Ya w x n _ os G,by simp[E];exact O,e7,by simp[putCells];exact Q,by
     have:=Yb (flatK jY 2 d) cur (by rw[D];exact K)
     rw[Y,D] at this
     simpa [E] using this⟩⟩ (by rw[XM];exact Qa _) (.inl ⟨rfl,rfl⟩) (λb hb=> .inl hb)
   rw[<-q9 rfl] at q
   exact ⟨_,_,_,_,rfl,⟨rfl,d.toList,t,v,rfl⟩,zK F rfl,q, #[],rfl,rfl⟩
theorem Xea (x:AV):jf Tryz.prog 152 [.v (.slice none 0 0),x] (.tup []):=λh=>by
 refine ⟨by kernel_rfl,⟨_,_,⟨rfl,rfl⟩,.refl⟩,?_⟩
 intro φ k B w g vs f hB a
 obtain ⟨v1,j,rfl,c,d,i,rfl,_,b⟩:=a
 have b:i=[]:=b
 subst b
 have c:v1= .slice none 0 0:=c
 subst c
 refine (W9 none 0 d w).mono ?_
 rintro e w' ⟨rfl,rfl⟩
 exact ⟨_,_,_,_,rfl,⟨rfl,rfl⟩,.refl,Good.refl f hB, #[],rfl,rfl⟩
end Go.Proofs.YtigdlmpjijhpaaaGreat.Ax
namespace Go.Proofs.YtigdlmpjijhpaaaGreat.Ax
open Go Go.Proofs
set_option maxRecDepth 100000
theorem zOa (l:List Spn) (x:Spn):qP (l++[x])=if (jp x).from_<(jp x).to_ then qP l++[jp x] else qP l:=by
 unfold qP
 rw[List.map_append,List.filter_append]
 by_cases h:(jp x).from_<(jp x).to_
 ·simp[h]
 ·simp[h]
set_option maxHeartbeats 1000000 in
theorem c65 (h:List Ob) (x:AV) (l:List Spn) (hx:SlOf h x 2 (l.map zz)) (hl:l.length<1099511627776):
  ACalls Tryz.prog 70 [x] h λr h'=>∃L,h'=h++L/\NoRes L/\New h 2 r ((zt l).map zz) L:=by
 have hex:∃r h',(∃L,h'=h++L/\NoRes L/\New h 2 r ((zt l).map zz) L)/\ResK h h':=
  ⟨.sl 2 _,_,⟨[],rfl,jN,λ_ _=>⟨rfl,λ_=>rfl⟩⟩,zW⟩
 refine zf Tryz.f70 [.tmp 2] 76 rfl rfl rfl rfl rfl rfl (by decide) (hex) λB=>?_
 rw[qZ,qZ,qZ]
 refine w8 (λT h'=>Pre h h'/\∃l':List Spn,OwnS h h' 143 2 (T 3) (l'.map zz)/\l'.Perm (qP l)/\l'.Pairwise leS) ?_ ?_
 ·simp only[go_sem,hx.rows,List.length_map]
  refine zk (by decide) (λm T h'=>∃k:Nat,k<=l.length/\Pre h h'/\OwnS h h' 143 2 (T 3) ((qP (l.take k)).map zz)/\T 10=x/\T 11=i64 l.length/\T 12=i64 k/\m=l.length - k) l.length
   ⟨0,by omega,Pre.refl,.inl ⟨by simp only[go_sem],rfl⟩,by simp only[go_sem],by simp only[go_sem],by (simp only[go_sem]<;>rfl),rfl⟩ ?_
  rintro m T h' ⟨k,hk,g,G,t10,O,w,rfl⟩
  simp only[go_sem,O,w]
  refine ways (λe=>?_) (λe=>?_)
  ·have f:=dlt e
   have ζ:SlOf h' x 2 (l.map zz):=by
    obtain ⟨L,rfl,_⟩:=g
    exact hx.app _
   have ψ:=ζ.at (i:=k) (by simpa using f)
   have d:(l.map zz)[k]? =some (zz l[k]):=by rw[List.getElem?_map,List.getElem?_eq_getElem f];rfl
   have H:(k:Int)<l.length:=by omega
   have a:=zOa (l.take k) l[k]
   rw[List.take_append_getElem f] at a
   obtain ⟨y,hy⟩:∃y,y=l[k]:=⟨_,rfl⟩
   rw[<-hy] at d a
   have fin:k+1<=l.length:=by omega
   have hA:List.length (zz y)=2:=rfl
   simp only[go_sem,t10,w,ψ,ζ.rows,d,H,List.length_map,Int.toNat_natCast,Int.natCast_nonneg,yb,w9]
   refine ways (λj=>?_) (λj=>?_)
   ·have j:(jp y).from_<(jp y).to_:=by simpa [jp] using j
    rw[if_pos j] at a
    rcases G with ⟨t3,Q⟩ | ⟨id,st,P,t3,N⟩
    ·simp only[go_sem,t3,w]
     refine ⟨l.length - (k+1),by omega,k+1,fin,g.app (zg rfl (zg rfl (zj rfl))),.inr ⟨_,_,by have:=g.len;omega,rfl,?_⟩,t10,O,zw (by omega) rfl,rfl⟩
     rw[a,List.map_append,Q,zl rfl]
     rfl
    ·have I:((qP (l.take k)).map zz).length+1<=1099511627776:=by
      have:=Zm (l.take k)
      rw[List.length_take] at this
      rw[List.length_map];omega
     have I:(((qP (l.take k)).map zz).length+1)*17<=140737488355328:=by omega
     have t:∀M,(h'++M)[id]? =some (.row 143 2 ((qP (l.take k)).map zz) st):=λM=>zb N
     simp only[go_sem,t3,w,t,I]
     refine ⟨l.length - (k+1),by omega,k+1,fin,(g.app (zg rfl (zj rfl))).set P rfl,.inr ⟨id,st+1,P,rfl,?_⟩,t10,O,zw (by omega) rfl,rfl⟩
     rw[a,List.map_append]
     exact zh (t _)
   ·have j:¬ (jp y).from_<(jp y).to_:=by simpa [jp] using j
    rw[if_neg j] at a
    simp only[go_sem,w]
    exact ⟨l.length - (k+1),by omega,k+1,fin,g.app (zj rfl),by rw[a];exact G.app _,t10,O,zw (by omega) rfl,rfl⟩
  ·have τ:=jk e
   have Z:k=l.length:=by omega
   subst Z
   rw[List.take_length] at G
   rcases G with ⟨t3,Q⟩ | ⟨id,st,P,t3,N⟩
   ·simp only[go_sem,t3]
    refine zd (Xea _ _) ?_
    rintro _ h4 ⟨rfl,e1⟩
    subst e1
    simp only[go_sem]
    exact ⟨g,[],.inl ⟨t3,rfl⟩,by rw[show qP l=[] by simpa using Q],.nil⟩
   ·simp only[go_sem,t3]
    refine zd (c93 _ id st (qP l) N (by have:=Zm l;omega)) ?_
    rintro _ h4 ⟨rfl,l',p1,p2,rfl⟩
    simp only[go_sem]
    exact ⟨g.set P rfl,l',.inr ⟨id,st,P,t3,zh N⟩,p1,p2⟩
 ·rintro T h' ⟨g,l',G,u,U⟩
  have β:=jXa u U
  have hlen:l'.length<=l.length:=by rw[u.length_eq];exact Zm l
  simp only[go_sem,G.rows.rows,List.length_map]
  refine zk (by decide) (λm R h'=>∃(k:Nat) (out:List Spn),k<=l'.length/\Pre h h'/\OwnS h h' 143 2 (T 3) (l'.map zz)/\OwnS h h' 143 2 (R 6) (out.map zz)/\(∀i1 s1 i2 s2,T 3= .tl i1 s1->R 6= .tl i2 s2->i1≠i2)/\out.length<=k/\((k=0/\out=[]/\R 6= .v (.slice none 0 0))∨∃D c,out=D++[c]/\0<k/\vO l'=D++jO c (l'.drop k))/\R 35=T 3/\R 36=i64 l'.length/\R 37=i64 k/\m=l'.length - k) l'.length
   ⟨0,[],by omega,g,G,.inl ⟨by simp only[go_sem],rfl⟩,(λ_ _ _ _ _ q=>by simp only[go_sem] at q),Nat.le_refl _,.inl ⟨rfl,rfl,by simp only[go_sem]⟩,by simp only[go_sem],by simp only[go_sem],by (simp only[go_sem]<;>rfl),rfl⟩ ?_
  obtain ⟨y,hy⟩:∃y,y=T 3:=⟨_,rfl⟩
  rw[<-hy]
  clear G g
  rintro m R h' ⟨k,out,hk,g,G,hu,μ,K,hj,A,J,o,rfl⟩
  simp only[go_sem,J,o]
  refine ways (λe=>?_) (λe=>?_)
  ·have f:=dlt e
   have d:(l'.map zz)[k]? =some (zz l'[k]):=by rw[List.getElem?_map,List.getElem?_eq_getElem f];rfl
   have b:l'.drop k=l'[k]::l'.drop (k+1):=List.drop_eq_getElem_cons f
   rcases G with ⟨_,Q⟩ | ⟨id,st,P,n,N⟩
   ·rw[List.map_eq_nil_iff] at Q
    rw[Q] at f;simp at f
   have t:∀M,(h'++M)[id]? =some (.row 143 2 (l'.map zz) st):=λM=>zb N
   have H:(k:Int)<l'.length:=by omega
   obtain ⟨z,hz⟩:∃z,z=l'[k]:=⟨_,rfl⟩
   rw[<-hz] at d b
   rcases hj with ⟨α,rfl,t6⟩ | ⟨D,c,rfl,α,hm⟩
   ·simp only[go_sem,A,n,o,t6,N,t,d,H,List.length_map,Int.toNat_natCast,Int.natCast_nonneg]
    refine zp rfl [] 0 [(0,0,[]),(1,0,[]),(2,0,[]),(3,0,[]),(5,0,[]),(6,0,[]),(7,0,[]),(4,0,[]),(8,0,[]),(9,0,[]),(10,0,[]),(11,0,[]),(12,0,[])] rfl (by decide) (by decide) ?_
    have ω:decide ((0:Int)>0)=false:=rfl
    simp only[go_sem,A,n,o,t6,t,ω]
    have υ:=g.len
    have hid:id<h'.length:=(List.getElem?_eq_some_iff.1 N).1
    refine ⟨l'.length - (k+1),by omega,k+1,[z],by omega,g.app (zg rfl (zg rfl (zj rfl))),.inr ⟨id,st,P,rfl,t _⟩,.inr ⟨_,_,by omega,rfl,by rw[zl rfl];rfl⟩,(λi1 s1 i2 s2 W X=>?_),by simp,.inr ⟨[],z,rfl,by omega,?_⟩,J,zw (by omega) rfl,rfl⟩
    ·injection W with W;injection X with X;omega
    ·rw[α,List.drop_zero] at b
     rw[b,α]
     rfl
   ·have θ:wr (((D.length+1:Nat):Int) - 1)=(D.length:Int):=by
     rw[zF (by simp at K;unfold Fit;omega)];omega
    have hn0:decide (((D.length+1:Nat):Int)>0)=true:=by simp
    have E:((D++[c]).map zz).length=D.length+1:=by simp
    have S:((D++[c]).map zz)[D.length]? =some (zz c):=by simp
    have ε:(D.length:Int)<((D.length+1:Nat):Int):=by omega
    obtain ⟨out,C⟩:∃out,out=(D++[c]).map zz:=⟨_,rfl⟩
    rcases hu with ⟨_,Q⟩ | ⟨V,Y,u1,p,u3⟩
    ·simp at Q
    have ι:=μ _ _ _ _ n p
    rw[<-C] at u3 E S
    have s:∀M,(h'++M)[V]? =some (.row 143 2 out Y):=λM=>zb u3
    simp only[go_sem,A,n,o,p,N,u3,t,s,d,H,E,List.length_map,Int.toNat_natCast,Int.natCast_nonneg]
    refine zp rfl [] 0 [(0,0,[]),(1,0,[]),(2,0,[]),(3,0,[]),(5,0,[]),(6,0,[]),(7,0,[]),(4,0,[]),(8,0,[]),(9,0,[]),(10,0,[]),(11,0,[]),(12,0,[])] rfl (by decide) (by decide) ?_
    simp only[go_sem,p,t,s,hn0,θ,S,E,ε,Int.toNat_natCast,Int.natCast_nonneg]
    refine ways (λj=>?_) (λj=>?_)
    ·have j:z.from_<=c.to_:=by simpa using j
     simp only[go_sem]
     refine zp rfl [] 0 [(0,0,[]),(1,0,[]),(2,0,[]),(3,0,[]),(4,0,[]),(5,0,[]),(9,0,[]),(6,0,[]),(7,0,[]),(8,0,[]),(10,0,[]),(11,0,[]),(12,0,[]),(13,0,[]),(14,0,[])] rfl (by decide) (by decide) ?_
     simp only[go_sem,p,t,s,θ,S,E,ε,Int.toNat_natCast,Int.natCast_nonneg,yb,o]
     obtain ⟨c2,ν⟩:∃c2:Spn,c2=⟨c.from_,max c.to_ z.to_⟩:=⟨_,rfl⟩
     have F:out.set D.length [i64 c.from_,i64 (max c.to_ z.to_)]=(D++[c2]).map zz:=by
      rw[C,ν];simp
     rw[F]
     refine ⟨l'.length - (k+1),by omega,k+1,D++[c2],by omega,(g.app (zj rfl)).set u1 rfl,.inr ⟨id,st,P,rfl,?_⟩,.inr ⟨V,Y,u1,rfl,zh (s _)⟩,(λi1 s1 i2 s2 W X=>μ i1 s1 i2 s2 (n.trans W) (p.trans X)),by simp at K ⊢;omega,.inr ⟨D,_,rfl,by omega,?_⟩,by rw[A,n],J,zw (by omega) rfl,rfl⟩
     ·rw[List.getElem?_set_ne (Ne.symm ι)];exact t _
     ·rw[hm,b,jO,if_pos j,ν]
    ·have j:¬ z.from_<=c.to_:=by simpa using j
     have I:(out.length+1)*17<=140737488355328:=by rw[E];simp at K;omega
     simp only[go_sem,p,t,s,I,o]
     have F:out++[[i64 z.from_,i64 z.to_]]=((D++[c])++[z]).map zz:=by
      rw[C];simp
     rw[F]
     refine ⟨l'.length - (k+1),by omega,k+1,(D++[c])++[z],by omega,(g.app (zg rfl (zj rfl))).set u1 rfl,.inr ⟨id,st,P,rfl,?_⟩,.inr ⟨V,Y+1,u1,rfl,zh (s _)⟩,(λi1 s1 i2 s2 W X=>?_),by simp at K ⊢;omega,.inr ⟨D++[c],z,rfl,by omega,?_⟩,by rw[A,n],J,zw (by omega) rfl,rfl⟩
     ·rw[List.getElem?_set_ne (Ne.symm ι)];exact t _
     ·injection W with W;injection X with X;omega
     ·rw[hm,b,jO,if_neg j,List.append_assoc]
      rfl
  ·have τ:=jk e
   have Z:k=l'.length:=by omega
   have κ:out=vO l':=by
    rcases hj with ⟨h0,h1,_⟩ | ⟨D,c,h0,_,h1⟩
    ·have:l'=[]:=List.length_eq_zero_iff.1 (by omega)
     rw[h1,this];rfl
    ·rw[h1,h0,Z,List.drop_length];simp[jO]
   subst κ
   simp only[go_sem]
   obtain ⟨L,rfl,hN⟩:=g
   exact ⟨R 6,by simp only[go_sem],.inl ⟨L,rfl,hN,by rw[<-β];exact hu.new (Nat.le_refl _)⟩⟩
end Go.Proofs.YtigdlmpjijhpaaaGreat.Ax
namespace Go.Proofs.YtigdlmpjijhpaaaGreat.Ax
open Go Go.Proofs Go.RowKit Go.Lib
theorem qIa (A:Option Addr) (n k:Nat) (a:n<=k) (w:World):Calls Tryz.prog 154 #[.slice A n k] w λe w'=>(e= .returned (.slice A n n)/\w'=w):=by
 have b:(n:Int)<=(k:Int):=by omega
 have c:(0:Int)<=(n:Int):=by omega
 go_enter Tryz.func154,Tryz.ntmps154
 go_wp2
 go_ret
 exact ⟨rfl,rfl⟩
theorem c96 (h:List Ob) (id st:Nat) (rows:List (List AV)) (c:h[id]? =some (.row 143 2 rows st)):ACalls Tryz.prog 154 [.tl id st] h λr h'=>r= .sl 2 rows/\h'=h.set id .gone:=by
 refine ⟨by kernel_rfl,⟨_,_,⟨rfl,rfl⟩,zK c rfl⟩,?_⟩
 intro φ m B w g vs i hB b
 obtain ⟨v1,j,rfl,l,d⟩:=b
 have d:j=[]:=d
 subst d
 obtain ⟨k1,k2⟩:=Jl i hB (zM c rfl)
 rw[<-q9 rfl] at k1 k2
 obtain ⟨A,k,rfl,f,a⟩:=k2 _ l
 refine (qIa A rows.length k f w).mono ?_
 rintro e w' ⟨rfl,rfl⟩
 exact ⟨_,_,_,_,rfl,⟨rfl,rfl⟩,zK c rfl,k1,A,rows.length,rfl,Nat.le_refl _,a⟩
theorem Xfa:jf Tryz.prog 154 [.v (.slice none 0 0)] (.v (.slice none 0 0)):=λh=>by
 refine ⟨by kernel_rfl,⟨_,_,⟨rfl,rfl⟩,.refl⟩,?_⟩
 intro φ i B w g vs d hB a
 obtain ⟨v1,f,rfl,c,b⟩:=a
 have b:f=[]:=b
 subst b
 have c:v1= .slice none 0 0:=c
 subst c
 refine (qIa none 0 0 (Nat.le_refl _) w).mono ?_
 rintro e w' ⟨rfl,rfl⟩
 exact ⟨_,_,_,_,rfl,⟨rfl,rfl⟩,.refl,Good.refl d hB,rfl⟩
end Go.Proofs.YtigdlmpjijhpaaaGreat.Ax
