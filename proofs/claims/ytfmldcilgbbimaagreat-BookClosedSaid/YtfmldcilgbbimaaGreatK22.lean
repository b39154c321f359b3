/-
  Joined.
-/
import Derived.Test.YtfmldcilgbbimaaGreatK11
import Derived.Shelf.SlSortCmp.WholeK
import Derived.Shelf.SlSortCmp.NoneTotal
import Derived.Shelf.SlicesG.Cmp
import Derived.Test.YtfmldcilgbbimaaGreatK20
import Derived.Test.YtfmldcilgbbimaaGreatK21
set_option linter.unusedSimpArgs false
set_option linter.unusedVariables false
namespace Go.Proofs.YtfmldcilgbbimaaGreat.Ax
open Go Go.Proofs Go.Shelf
def zFa:Go.Shelf.Ren:=⟨fun | 6=>138 | 15=>158 | 14=>202 | 28=>214 | 29=>141 | 20=>238 | 21=>239 | 22=>240 | 23=>241 | 24=>242 | 25=>243 | 26=>244 | 27=>245 | 46=>269 | 47=>257 | 48=>258 | 49=>270 | 50=>271 | 57=>279 | n=>n,fun | 22=>55 | 24=>134 | 25=>218 | 3=>3 | 39=>234 | 0=>0 | 53=>281 | 55=>221 | 4=>4 | 46=>274 | 45=>273 | 50=>278 | 5=>5 | 9=>9 | 66=>309 | 70=>101 | 76=>322 | 77=>156 | n=>n,fun | n=>n⟩
theorem qWa:Go.Proofs.SlLaysF0.n6 Tryz.prog zFa:={
 mixed:=by kernel_rfl
 f6:=⟨Tryz.f138.name,by decide,Tryz.func138.trans (congrArg some (by kernel_rfl))⟩
 f14:=⟨Tryz.f202.name,by decide,Tryz.func202.trans (congrArg some (by kernel_rfl))⟩
 f15:=Tryz.func158.trans (congrArg some (by kernel_rfl))
 f20:=⟨Tryz.f238.name,by decide,Tryz.func238.trans (congrArg some (by kernel_rfl))⟩
 f21:=⟨Tryz.f239.name,by decide,Tryz.func239.trans (congrArg some (by kernel_rfl))⟩
 f22:=⟨Tryz.f240.name,by decide,Tryz.func240.trans (congrArg some (by kernel_rfl))⟩
 f23:=⟨Tryz.f241.name,by decide,Tryz.func241.trans (congrArg some (by kernel_rfl))⟩
 f24:=⟨Tryz.f242.name,by decide,Tryz.func242.trans (congrArg some (by kernel_rfl))⟩
 f25:=⟨Tryz.f243.name,by decide,Tryz.func243.trans (congrArg some (by kernel_rfl))⟩
 f26:=⟨Tryz.f244.name,by decide,Tryz.func244.trans (congrArg some (by kernel_rfl))⟩
 f27:=⟨Tryz.f245.name,by decide,Tryz.func245.trans (congrArg some (by kernel_rfl))⟩
 f28:=Tryz.func214.trans (congrArg some (by kernel_rfl))
 f29:=Tryz.func141.trans (congrArg some (by kernel_rfl))
 f46:=⟨Tryz.f269.name,by decide,Tryz.func269.trans (congrArg some (by kernel_rfl))⟩
 f47:=Tryz.func257.trans (congrArg some (by kernel_rfl))
 f48:=Tryz.func258.trans (congrArg some (by kernel_rfl))
 f49:=⟨Tryz.f270.name,by decide,Tryz.func270.trans (congrArg some (by kernel_rfl))⟩
 f50:=⟨Tryz.f271.name,by decide,Tryz.func271.trans (congrArg some (by kernel_rfl))⟩
 f57:=⟨Tryz.f279.name,by decide,Tryz.func279.trans (congrArg some (by kernel_rfl))⟩
 t0:=Tryz.underlying0
 a0:=Tryz.isAgg0
 z0:=Tryz.sizeOf0
 v0:=Tryz.zeroValue0
 t3:=Tryz.underlying3
 a3:=Tryz.isAgg3
 z3:=Tryz.sizeOf3
 v3:=Tryz.zeroValue3
 t4:=Tryz.underlying4
 a4:=Tryz.isAgg4
 z4:=Tryz.sizeOf4
 v4:=Tryz.zeroValue4
 t5:=Tryz.underlying5
 a5:=Tryz.isAgg5
 z5:=Tryz.sizeOf5
 v5:=Tryz.zeroValue5
 t9:=Tryz.underlying9
 a9:=Tryz.isAgg9
 z9:=Tryz.sizeOf9
 v9:=Tryz.zeroValue9
 t22:=Tryz.underlying55
 a22:=Tryz.isAgg55
 z22:=Tryz.sizeOf55
 v22:=Tryz.zeroValue55
 t25:=Tryz.underlying218
 a25:=Tryz.isAgg218
 z25:=Tryz.sizeOf218
 v25:=Tryz.zeroValue218
 t39:=Tryz.underlying234
 a39:=Tryz.isAgg234
 z39:=Tryz.sizeOf234
 v39:=Tryz.zeroValue234
 t45:=Tryz.underlying273
 a45:=Tryz.isAgg273
 z45:=Tryz.sizeOf273
 v45:=Tryz.zeroValue273
 t46:=Tryz.underlying274
 a46:=Tryz.isAgg274
 z46:=Tryz.sizeOf274
 v46:=Tryz.zeroValue274
 t50:=Tryz.underlying278
 a50:=Tryz.isAgg278
 z50:=Tryz.sizeOf278
 v50:=Tryz.zeroValue278
 t53:=Tryz.underlying281
 a53:=Tryz.isAgg281
 z53:=Tryz.sizeOf281
 v53:=Tryz.zeroValue281
 t55:=Tryz.underlying221
 a55:=Tryz.isAgg221
 z55:=Tryz.sizeOf221
 v55:=Tryz.zeroValue221
 t66:=Tryz.underlying309
 a66:=Tryz.isAgg309
 z66:=Tryz.sizeOf309
 v66:=Tryz.zeroValue309
 t70:=Tryz.underlying101
 a70:=Tryz.isAgg101
 z70:=Tryz.sizeOf101
 v70:=Tryz.zeroValue101
 t76:=Tryz.underlying322
 a76:=Tryz.isAgg322
 z76:=Tryz.sizeOf322
 v76:=Tryz.zeroValue322
 t77:=Tryz.underlying156
 a77:=Tryz.isAgg156
 z77:=Tryz.sizeOf156
 v77:=Tryz.zeroValue156 }
def xNa:Go.Shelf.Ren:=⟨fun | 5=>108 | 7=>177 | n=>n,fun | 22=>3 | 3=>3 | 4=>4 | n=>n,fun | n=>n⟩
theorem xOa:Go.Proofs.SlLaysC2.n5 Tryz.prog xNa:={
 mixed:=by kernel_rfl
 f5:=⟨Tryz.f108.name,by decide,Tryz.func108.trans (congrArg some (by kernel_rfl))⟩
 f7:=⟨Tryz.f177.name,by decide,Tryz.func177.trans (congrArg some (by kernel_rfl))⟩
 t3:=Tryz.underlying3
 a3:=Tryz.isAgg3
 z3:=Tryz.sizeOf3
 v3:=Tryz.zeroValue3
 t4:=Tryz.underlying4
 a4:=Tryz.isAgg4
 z4:=Tryz.sizeOf4
 v4:=Tryz.zeroValue4
 t22:=Tryz.underlying3
 a22:=Tryz.isAgg3
 z22:=Tryz.sizeOf3
 v22:=Tryz.zeroValue3 }
end Go.Proofs.YtfmldcilgbbimaaGreat.Ax
namespace Go.Proofs.YtfmldcilgbbimaaGreat.Ax
open Go Go.Proofs Go.Shelf Go.RowKit Go.Lib Go.Sort
instance:Inhabited Spn:=⟨⟨0,0⟩⟩
def xG (x:Spn):List Value:=[.int .i64 x.from_,.int .i64 x.to_]
set_option maxHeartbeats 1000000 in
theorem wla (x y:Spn) (W:World):Calls Tryz.prog 139 #[.agg #[.int .i64 x.from_,.int .i64 x.to_],.agg #[.int .i64 y.from_,.int .i64 y.to_]] W λe w'=>e= .returned (.int .i64 (Lib.compareInt x.from_ y.from_))/\∃q b,w'=grow (W.drewN q) b:=by
 have a:=λc=>AnyG.cmp_Compare_int xOa x.from_ y.from_ c
 change ∀c,Calls Tryz.prog 108 _ _ _ at a
 generalize Lib.compareInt x.from_ y.from_=r at a⊢
 go_enter Tryz.func139,Tryz.ntmps139
 go_wp2_with (go_at_call 108;refine (a _).mono ?_;rintro e w' ⟨rfl,rfl⟩)
 go_ret
 exact ⟨rfl,0,_,by rw[alloc_eq_grow,alloc_eq_grow,grow_grow];rfl⟩
theorem wma (blk off size:Nat) (w:World):CmpLays Tryz.prog 139 #[] xG 2 (λx y=>Lib.compareInt x.from_ y.from_) blk off size w:=
 λ_ _ _ _ x y=>wla x y _
theorem kXa (x y:Spn):ltOf (λx y:Spn=>Lib.compareInt x.from_ y.from_) x y=decide (x.from_<y.from_):=by
 unfold ltOf Lib.compareInt
 by_cases a:x.from_<y.from_
 ·simp[a]
 ·by_cases b:y.from_<x.from_<;>simp[a,b]
theorem Kxa:SWO (ltOf λx y:Spn=>Lib.compareInt x.from_ y.from_):=
 { irrefl:=λx=>by rw[kXa];simp
   trans:=λx y z a b=>by rw[kXa] at *; simp at *; omega
   ntrans:=λx y z a b=>by rw[kXa] at *; simp at *; omega }
theorem Joa (blk off cap:Nat) (d:Array Spn) (w:World) (i:HoldsK xG 2 w blk off d) (a:blk<w.heap.size) (f:d.size<4611686018427387904):
  Calls Tryz.prog 138 #[.slice (some ⟨blk,off,none⟩) d.size cap,.func (.func 139) #[] #[]] w λe w'=>e= .returned (.tuple #[])/\∃c n os,PermIn 0 d.size d c/\SortedIn (ltOf λx y:Spn=>Lib.compareInt x.from_ y.from_) 0 d.size c/\w'=sortWorldK xG 2 w blk off n c os:=by
 have h:∀args w,(callFunc 139 args).run Tryz.prog w= .ok (.enter 139 args) w:=enters_of Tryz.func139 (by kernel_rfl) rfl
 have b:=AnyQ.slices_SortFunc qWa 2 Tryz.isAgg134 Tryz.sizeOf134 xG (λ_=>rfl) (λx v g=>by simp[xG] at g;rcases g with rfl | rfl<;>rfl) (λx y=>Lib.compareInt x.from_ y.from_) Kxa 139 #[] blk off cap d w h (wma blk off d.size w) i a f
 exact b
theorem qXa (A:Option Addr) (cap:Nat) (b:Value) (w:World):Calls Tryz.prog 138 #[.slice A 0 cap,b] w λe w'=>e= .returned (.tuple #[])/\w'=w:=by
 have a:=AnyF.slices_SortFunc_none qWa A cap b w
 exact a
def yP (l:List Spn):List Value:=(l.map xG).flatten
theorem XT:∀l:List Spn,(yP l).length=l.length*2
 | []=>rfl
 | x::l=>by
   have:=XT l
   simp only[yP,List.map_cons,List.flatten_cons,List.length_append,xG,List.length_cons,List.length_nil] at this⊢
   omega
theorem VZ:∀(l:List Spn) (t:Nat),t<l.length*2->(yP l)[t]? =some ((xG l.toArray[t / 2]!)[t % 2]!)
 | [],t,h=>by simp at h
 | x::l,0,_=>by simp[yP,xG]
 | x::l,1,_=>by simp[yP,xG]
 | x::l,t+2,h=>by
   have:=VZ l t (by simp at h;omega)
   have c:(t+2) / 2=t / 2+1:=by omega
   have a:(t+2) % 2=t % 2:=by omega
   have b:(yP (x::l))[t+2]? =(yP l)[t]? :=by simp[yP,xG]
   rw[b,this,c,a]
   simp
theorem xPa (l:List Spn):(flatK xG 2 l.toArray).toList=yP l:=by
 apply List.ext_getElem?
 intro t
 by_cases a:t<l.length*2
 ·rw[VZ l t a]
  simp[flatK,a]
 ·rw[List.getElem?_eq_none (by simp;omega),List.getElem?_eq_none (by rw[XT];omega)]
theorem V1:∀l:List Spn,(l.map zH).flatten=(yP l).map .v
 | []=>rfl
 | x::l=>by
   have:=V1 l
   simp only[yP,List.map_cons,List.flatten_cons,List.map_append] at this⊢
   rw[this]
   rfl
theorem Xi {c:Ctx}:∀ {vs us:List Value},ARs c (vs.map .v) us->us=vs
 | [],_,h=>h
 | v::vs,us,⟨u,r,b,a,d⟩=>by
   have a:u=v:=a
   rw[b,a,Xi d]
theorem V2 (w:World) (blk n:Nat) (F:Array Value) (os:Array Obj) {cur:Array Value} {e:TypeId} {b:Nat × Nat} (c:w.heap[blk]? =some (.cells cur e b)):
  (grow (putRow id (Sort.ahead w n) blk 0 F) os).heap[blk]? =some (.cells (putCells id 0 F cur) e b):=by
 have a:=(Array.getElem?_eq_some_iff.1 c).1
 simp only[grow,putRow,mapBlock,Sort.ahead]
 rw[Array.getElem?_append_left (by simpa using a)]
 simp[Array.getElem?_modify,c,onCells]
theorem XU (w:World) (blk n:Nat) (F:Array Value) (os:Array Obj):w.grownBy (grow (putRow id (Sort.ahead w n) blk 0 F) os) (some blk):=by
 refine ⟨rfl,rfl,rfl,by simp[grow,putRow,mapBlock,Sort.ahead],λk b a=>?_⟩
 simp only[grow,putRow,mapBlock,Sort.ahead]
 rw[Array.getElem?_append_left (by simpa using b),Array.getElem?_modify,if_neg (λe=>a (by rw[e]))]
theorem V3 (F cur:Array Value) (h:F.size<=cur.size):(putCells id 0 F cur).toList.take F.size=F.toList:=by
 apply List.ext_getElem?
 intro t
 by_cases a:t<F.size
 ·have b:t<cur.size:=by omega
  simp[putCells,List.getElem?_take,a,b]
 ·rw[List.getElem?_eq_none (by simp;omega),List.getElem?_eq_none (by simp;omega)]
theorem c93 (h:List Ob) (id st:Nat) (l:List Spn) (F:h[id]? =some (.row 134 2 (l.map zH) st)) (hl:l.length<1099511627776):
  ACalls Tryz.prog 138 [.tl id st,.fn (.func 139) [] []] h λr h'=>r= .tup []/\∃l':List Spn,l'.Perm l/\l'.Pairwise leS/\h'=h.set id (.row 134 2 (l'.map zH) st):=by
 refine ⟨by kernel_rfl,⟨_,_,⟨rfl,_,List.mergeSort_perm l (λa b=>decide (a.from_<=b.from_)),?_,rfl⟩,zC F rfl⟩,?_⟩
 ·have:=List.pairwise_mergeSort (le:=λa b:Spn=>decide (a.from_<=b.from_)) (λa b c h1 h2=>by simp at *; omega) (λa b=>by simp;omega) l
  exact this.imp λh=>by simpa [leS] using h
 ·intro φ hu B w g vs P hB u
  have x:(fill φ h)[id]? =some (.row 134 2 (l.map zH) st):=zN F rfl
  obtain ⟨v1,r1,rfl,⟨_,M,z⟩,v2,r2,rfl,⟨us,vs,rfl,p,m⟩,N⟩:=u
  have N:r2=[]:=N
  subst N
  have p:us.toList=[]:=p
  have m:vs.toList=[]:=m
  have p:us= #[]:=by simpa using p
  have m:vs= #[]:=by simpa using m
  subst p;subst m
  have R:v1=g.cur id:=(z st (by simp[ctx,x,Ob.tok])).2 rfl
  obtain ⟨q0,q1,cells,T,U⟩:=P.ok id _ x
  rw[V1] at U
  have Z:=Xi U
  subst Z
  by_cases D:l=[]
  ·subst D
   have K:∃A k,g.cur id= .slice A 0 k:=by
    rcases T.2 with ⟨f,_⟩ | ⟨y,cap,cur,f,_⟩
    ·exact ⟨_,_,f⟩
    ·exact ⟨_,_,f⟩
   obtain ⟨A,k,K⟩:=K
   rw[R,K]
   refine (qXa A k _ w).mono ?_
   rintro e w' ⟨rfl,rfl⟩
   exact ⟨_,_,_,_,rfl,⟨rfl,[],.refl _,.nil,(zT F).symm⟩,.refl,Good.refl P hB, #[],rfl,rfl⟩
  rcases T.2 with ⟨_,f⟩ | ⟨y,cap,cur,f,e4,G,I,e7,W,V⟩
  ·exfalso
   simp at f
   exact D f
  ·have f:g.cur id=_:=f
   simp only[List.length_map] at f I V
   have O:l.length*2<=cur.size:=by rw[W];exact Nat.mul_le_mul_right _ I
   have L:∀j,j<l.length*2->cur[j]? =some ((xG l.toArray[j / 2]!)[j % 2]!):=λj s=>by
    rw[<-VZ l j s, <-V,List.getElem?_take,if_pos s,Array.getElem?_toList]
   have Y:HoldsK xG 2 w y 0 l.toArray:=λj s=>by
    have s:j<l.length*2:=by simpa using s
    refine ⟨?_,?_⟩
    ·simp only[World.cell?,G,Nat.zero_add]
     rw[get_flatK _ _ _ _ (by simpa using s)]
     exact L j s
    ·simp[World.frozen?,G]
   have q:=Joa y 0 cap l.toArray w Y (Array.getElem?_eq_some_iff.1 G).1 (by simp;omega)
   rw[R,f]
   have J:l.toArray.size=l.length:=by simp
   rw[J] at q
   refine q.mono ?_
   rintro e w' ⟨rfl,d,n,os,hp,X,rfl⟩
   obtain ⟨p1,p2,Q⟩:=hp
   have E:d.size=l.length:=by rw[p1];simp
   have v:d.toList.Perm l:=by
    have a1:d.extract 0 l.length=d:=by rw[<-E];simp
    have a2:l.toArray.extract 0 l.length=l.toArray:=by simp
    rw[a1,a2] at Q
    exact Q
   have t:d.toList.Pairwise leS:=by
    rw[List.pairwise_iff_getElem]
    intro i j S s H
    simp only[Array.length_toList] at S s
    have:=X i j (by omega) H (by omega)
    rw[kXa,getElem!_pos d i S,getElem!_pos d j s] at this
    simp at this
    simpa [leS] using this
   have hF:(flatK xG 2 d).toList=yP d.toList:=xPa d.toList
   have C:(flatK xG 2 d).size=l.length*2:=by simp[E]
   have o:=yC (w':=sortWorldK xG 2 w y 0 n d os) (v':=g.cur id) (st':=st) (xs':=d.toList.map zH) (cells:=yP d.toList) P hB x (by simp) (by rw[f];exact XU w y n _ os)
    ⟨by rw[XT];simp,.inr ⟨y,cap,_,by simp[f,E],e4,V2 w y n _ os G,by simp[E];exact I,e7,by simp[putCells];exact W,by
     have:=V3 (flatK xG 2 d) cur (by rw[C];exact O)
     rw[hF,C] at this
     simpa [E] using this⟩⟩ (by rw[V1];exact ZT _) (.inl ⟨rfl,rfl⟩) (λb hb=> .inl hb)
   rw[<-qn rfl] at o
   exact ⟨_,_,_,_,rfl,⟨rfl,d.toList,v,t,rfl⟩,zC F rfl,o, #[],rfl,rfl⟩
theorem YXa (x:AV):ji Tryz.prog 138 [.v (.slice none 0 0),x] (.tup []):=λh=>by
 refine ⟨by kernel_rfl,⟨_,_,⟨rfl,rfl⟩,.refl⟩,?_⟩
 intro φ k B w g vs f hB a
 obtain ⟨v1,j,rfl,b,i,d,rfl,_,c⟩:=a
 have c:d=[]:=c
 subst c
 have b:v1= .slice none 0 0:=b
 subst b
 refine (qXa none 0 i w).mono ?_
 rintro e w' ⟨rfl,rfl⟩
 exact ⟨_,_,_,_,rfl,⟨rfl,rfl⟩,.refl,Good.refl f hB, #[],rfl,rfl⟩
end Go.Proofs.YtfmldcilgbbimaaGreat.Ax
namespace Go.Proofs.YtfmldcilgbbimaaGreat.Ax
open Go Go.Proofs
set_option maxRecDepth 100000
theorem xQa (l:List Spn) (x:Spn):jb (l++[x])=if (jI x).from_<(jI x).to_ then jb l++[jI x] else jb l:=by
 unfold jb
 rw[List.map_append,List.filter_append]
 by_cases h:(jI x).from_<(jI x).to_
 ·simp[h]
 ·simp[h]
set_option maxHeartbeats 1000000 in
theorem c65 (h:List Ob) (x:AV) (l:List Spn) (hx:SlOf h x 2 (l.map zH)) (hl:l.length<1099511627776):
  ACalls Tryz.prog 65 [x] h λr h'=>∃L,h'=h++L/\NoRes L/\New h 2 r ((zE l).map zH) L:=by
 have hex:∃r h',(∃L,h'=h++L/\NoRes L/\New h 2 r ((zE l).map zH) L)/\ResK h h':=
  ⟨.sl 2 _,_,⟨[],rfl,qh,λ_ _=>⟨rfl,λ_=>rfl⟩⟩,zR⟩
 refine zf Tryz.f65 [.tmp 2] 76 rfl rfl rfl rfl rfl rfl (by decide) (hex) λB=>?_
 rw[jn,jn,jn]
 refine Zi (λT h'=>Pre h h'/\∃l':List Spn,OwnS h h' 134 2 (T 3) (l'.map zH)/\l'.Perm (jb l)/\l'.Pairwise leS) ?_ ?_
 ·simp only[go_sem,hx.rows,List.length_map]
  refine zj (by decide) (λm T h'=>∃k:Nat,k<=l.length/\Pre h h'/\OwnS h h' 134 2 (T 3) ((jb (l.take k)).map zH)/\T 10=x/\T 11=i64 l.length/\T 12=i64 k/\m=l.length - k) l.length
   ⟨0,by omega,Pre.refl,.inl ⟨by simp only[go_sem],rfl⟩,by simp only[go_sem],by simp only[go_sem],by (simp only[go_sem]<;>rfl),rfl⟩ ?_
  rintro m T h' ⟨k,hk,g,G,t10,J,w,rfl⟩
  simp only[go_sem,J,w]
  refine ways (λe=>?_) (λe=>?_)
  ·have f:=dlt e
   have ε:SlOf h' x 2 (l.map zH):=by
    obtain ⟨L,rfl,_⟩:=g
    exact hx.app _
   have υ:=ε.at (i:=k) (by simpa using f)
   have d:(l.map zH)[k]? =some (zH l[k]):=by rw[List.getElem?_map,List.getElem?_eq_getElem f];rfl
   have P:(k:Int)<l.length:=by omega
   have a:=xQa (l.take k) l[k]
   rw[List.take_append_getElem f] at a
   obtain ⟨y,hy⟩:∃y,y=l[k]:=⟨_,rfl⟩
   rw[<-hy] at d a
   have fin:k+1<=l.length:=by omega
   have hA:List.length (zH y)=2:=rfl
   simp only[go_sem,t10,w,υ,ε.rows,d,P,List.length_map,Int.toNat_natCast,Int.natCast_nonneg,Zk,Zj]
   refine ways (λj=>?_) (λj=>?_)
   ·have j:(jI y).from_<(jI y).to_:=by simpa [jI] using j
    rw[if_pos j] at a
    rcases G with ⟨t3,R⟩ | ⟨id,st,H,t3,K⟩
    ·simp only[go_sem,t3,w]
     refine ⟨l.length - (k+1),by omega,k+1,fin,g.app (zg rfl (zg rfl (zi rfl))),.inr ⟨_,_,by have:=g.len;omega,rfl,?_⟩,t10,J,zx (by omega) rfl,rfl⟩
     rw[a,List.map_append,R,zm rfl]
     rfl
    ·have I:((jb (l.take k)).map zH).length+1<=1099511627776:=by
      have:=QQ (l.take k)
      rw[List.length_take] at this
      rw[List.length_map];omega
     have I:(((jb (l.take k)).map zH).length+1)*17<=140737488355328:=by omega
     have t:∀M,(h'++M)[id]? =some (.row 134 2 ((jb (l.take k)).map zH) st):=λM=>zb K
     simp only[go_sem,t3,w,t,I]
     refine ⟨l.length - (k+1),by omega,k+1,fin,(g.app (zg rfl (zi rfl))).set H rfl,.inr ⟨id,st+1,H,rfl,?_⟩,t10,J,zx (by omega) rfl,rfl⟩
     rw[a,List.map_append]
     exact zh (t _)
   ·have j:¬ (jI y).from_<(jI y).to_:=by simpa [jI] using j
    rw[if_neg j] at a
    simp only[go_sem,w]
    exact ⟨l.length - (k+1),by omega,k+1,fin,g.app (zi rfl),by rw[a];exact G.app _,t10,J,zx (by omega) rfl,rfl⟩
  ·have ψ:=qU e
   have X:k=l.length:=by omega
   subst X
   rw[List.take_length] at G
   rcases G with ⟨t3,R⟩ | ⟨id,st,H,t3,K⟩
   ·simp only[go_sem,t3]
    refine zc (YXa _ _) ?_
    rintro _ h4 ⟨rfl,e1⟩
    subst e1
    simp only[go_sem]
    exact ⟨g,[],.inl ⟨t3,rfl⟩,by rw[show jb l=[] by simpa using R],.nil⟩
   ·simp only[go_sem,t3]
    refine zc (c93 _ id st (jb l) K (by have:=QQ l;omega)) ?_
    rintro _ h4 ⟨rfl,l',p1,p2,rfl⟩
    simp only[go_sem]
    exact ⟨g.set H rfl,l',.inr ⟨id,st,H,t3,zh K⟩,p1,p2⟩
 ·rintro T h' ⟨g,l',G,F,V⟩
  have W:=wia F V
  have hlen:l'.length<=l.length:=by rw[F.length_eq];exact QQ l
  simp only[go_sem,G.rows.rows,List.length_map]
  refine zj (by decide) (λm Q h'=>∃(k:Nat) (out:List Spn),k<=l'.length/\Pre h h'/\OwnS h h' 134 2 (T 3) (l'.map zH)/\OwnS h h' 134 2 (Q 6) (out.map zH)/\(∀i1 s1 i2 s2,T 3= .tl i1 s1->Q 6= .tl i2 s2->i1≠i2)/\out.length<=k/\((k=0/\out=[]/\Q 6= .v (.slice none 0 0))∨∃D c,out=D++[c]/\0<k/\wL l'=D++xl c (l'.drop k))/\Q 35=T 3/\Q 36=i64 l'.length/\Q 37=i64 k/\m=l'.length - k) l'.length
   ⟨0,[],by omega,g,G,.inl ⟨by simp only[go_sem],rfl⟩,(λ_ _ _ _ _ q=>by simp only[go_sem] at q),Nat.le_refl _,.inl ⟨rfl,rfl,by simp only[go_sem]⟩,by simp only[go_sem],by simp only[go_sem],by (simp only[go_sem]<;>rfl),rfl⟩ ?_
  obtain ⟨y,hy⟩:∃y,y=T 3:=⟨_,rfl⟩
  rw[<-hy]
  clear G g
  rintro m Q h' ⟨k,out,hk,g,G,hu,ι,O,hj,A,N,o,rfl⟩
  simp only[go_sem,N,o]
  refine ways (λe=>?_) (λe=>?_)
  ·have f:=dlt e
   have d:(l'.map zH)[k]? =some (zH l'[k]):=by rw[List.getElem?_map,List.getElem?_eq_getElem f];rfl
   have b:l'.drop k=l'[k]::l'.drop (k+1):=List.drop_eq_getElem_cons f
   rcases G with ⟨_,R⟩ | ⟨id,st,H,n,K⟩
   ·rw[List.map_eq_nil_iff] at R
    rw[R] at f;simp at f
   have t:∀M,(h'++M)[id]? =some (.row 134 2 (l'.map zH) st):=λM=>zb K
   have P:(k:Int)<l'.length:=by omega
   obtain ⟨z,hz⟩:∃z,z=l'[k]:=⟨_,rfl⟩
   rw[<-hz] at d b
   rcases hj with ⟨β,rfl,t6⟩ | ⟨D,c,rfl,β,hm⟩
   ·simp only[go_sem,A,n,o,t6,K,t,d,P,List.length_map,Int.toNat_natCast,Int.natCast_nonneg]
    refine zn rfl [] 0 [(0,0,[]),(1,0,[]),(2,0,[]),(3,0,[]),(5,0,[]),(6,0,[]),(7,0,[]),(4,0,[]),(8,0,[]),(9,0,[]),(10,0,[]),(11,0,[]),(12,0,[])] rfl (by decide) (by decide) ?_
    have ρ:decide ((0:Int)>0)=false:=rfl
    simp only[go_sem,A,n,o,t6,t,ρ]
    have φ:=g.len
    have hid:id<h'.length:=(List.getElem?_eq_some_iff.1 K).1
    refine ⟨l'.length - (k+1),by omega,k+1,[z],by omega,g.app (zg rfl (zg rfl (zi rfl))),.inr ⟨id,st,H,rfl,t _⟩,.inr ⟨_,_,by omega,rfl,by rw[zm rfl];rfl⟩,(λi1 s1 i2 s2 r1 Y=>?_),by simp,.inr ⟨[],z,rfl,by omega,?_⟩,N,zx (by omega) rfl,rfl⟩
    ·injection r1 with r1;injection Y with Y;omega
    ·rw[β,List.drop_zero] at b
     rw[b,β]
     rfl
   ·have μ:wr (((D.length+1:Nat):Int) - 1)=(D.length:Int):=by
     rw[zI (by simp at O;unfold Fit;omega)];omega
    have χ:decide (((D.length+1:Nat):Int)>0)=true:=by simp
    have E:((D++[c]).map zH).length=D.length+1:=by simp
    have U:((D++[c]).map zH)[D.length]? =some (zH c):=by simp
    have ζ:(D.length:Int)<((D.length+1:Nat):Int):=by omega
    obtain ⟨out,u⟩:∃out,out=(D++[c]).map zH:=⟨_,rfl⟩
    rcases hu with ⟨_,R⟩ | ⟨S,Z,u1,s,u3⟩
    ·simp at R
    have θ:=ι _ _ _ _ n s
    rw[<-u] at u3 E U
    have p:∀M,(h'++M)[S]? =some (.row 134 2 out Z):=λM=>zb u3
    simp only[go_sem,A,n,o,s,K,u3,t,p,d,P,E,List.length_map,Int.toNat_natCast,Int.natCast_nonneg]
    refine zn rfl [] 0 [(0,0,[]),(1,0,[]),(2,0,[]),(3,0,[]),(5,0,[]),(6,0,[]),(7,0,[]),(4,0,[]),(8,0,[]),(9,0,[]),(10,0,[]),(11,0,[]),(12,0,[])] rfl (by decide) (by decide) ?_
    simp only[go_sem,s,t,p,χ,μ,U,E,ζ,Int.toNat_natCast,Int.natCast_nonneg]
    refine ways (λj=>?_) (λj=>?_)
    ·have j:z.from_<=c.to_:=by simpa using j
     simp only[go_sem]
     refine zn rfl [] 0 [(0,0,[]),(1,0,[]),(2,0,[]),(3,0,[]),(4,0,[]),(5,0,[]),(9,0,[]),(6,0,[]),(7,0,[]),(8,0,[]),(10,0,[]),(11,0,[]),(12,0,[]),(13,0,[]),(14,0,[])] rfl (by decide) (by decide) ?_
     simp only[go_sem,s,t,p,μ,U,E,ζ,Int.toNat_natCast,Int.natCast_nonneg,Zk,o]
     obtain ⟨c2,ν⟩:∃c2:Spn,c2=⟨c.from_,max c.to_ z.to_⟩:=⟨_,rfl⟩
     have C:out.set D.length [i64 c.from_,i64 (max c.to_ z.to_)]=(D++[c2]).map zH:=by
      rw[u,ν];simp
     rw[C]
     refine ⟨l'.length - (k+1),by omega,k+1,D++[c2],by omega,(g.app (zi rfl)).set u1 rfl,.inr ⟨id,st,H,rfl,?_⟩,.inr ⟨S,Z,u1,rfl,zh (p _)⟩,(λi1 s1 i2 s2 r1 Y=>ι i1 s1 i2 s2 (n.trans r1) (s.trans Y)),by simp at O ⊢;omega,.inr ⟨D,_,rfl,by omega,?_⟩,by rw[A,n],N,zx (by omega) rfl,rfl⟩
     ·rw[List.getElem?_set_ne (Ne.symm θ)];exact t _
     ·rw[hm,b,xl,if_pos j,ν]
    ·have j:¬ z.from_<=c.to_:=by simpa using j
     have I:(out.length+1)*17<=140737488355328:=by rw[E];simp at O;omega
     simp only[go_sem,s,t,p,I,o]
     have C:out++[[i64 z.from_,i64 z.to_]]=((D++[c])++[z]).map zH:=by
      rw[u];simp
     rw[C]
     refine ⟨l'.length - (k+1),by omega,k+1,(D++[c])++[z],by omega,(g.app (zg rfl (zi rfl))).set u1 rfl,.inr ⟨id,st,H,rfl,?_⟩,.inr ⟨S,Z+1,u1,rfl,zh (p _)⟩,(λi1 s1 i2 s2 r1 Y=>?_),by simp at O ⊢;omega,.inr ⟨D++[c],z,rfl,by omega,?_⟩,by rw[A,n],N,zx (by omega) rfl,rfl⟩
     ·rw[List.getElem?_set_ne (Ne.symm θ)];exact t _
     ·injection r1 with r1;injection Y with Y;omega
     ·rw[hm,b,xl,if_neg j,List.append_assoc]
      rfl
  ·have ψ:=qU e
   have X:k=l'.length:=by omega
   have κ:out=wL l':=by
    rcases hj with ⟨h0,h1,_⟩ | ⟨D,c,h0,_,h1⟩
    ·have:l'=[]:=List.length_eq_zero_iff.1 (by omega)
     rw[h1,this];rfl
    ·rw[h1,h0,X,List.drop_length];simp[xl]
   subst κ
   simp only[go_sem]
   obtain ⟨L,rfl,hN⟩:=g
   exact ⟨Q 6,by simp only[go_sem],.inl ⟨L,rfl,hN,by rw[<-W];exact hu.new (Nat.le_refl _)⟩⟩
end Go.Proofs.YtfmldcilgbbimaaGreat.Ax
namespace Go.Proofs.YtfmldcilgbbimaaGreat.Ax
open Go Go.Proofs Go.RowKit Go.Lib
theorem kYa (A:Option Addr) (n k:Nat) (a:n<=k) (w:World):Calls Tryz.prog 140 #[.slice A n k] w λe w'=>(e= .returned (.slice A n n)/\w'=w):=by
 have b:(n:Int)<=(k:Int):=by omega
 have c:(0:Int)<=(n:Int):=by omega
 go_enter Tryz.func140,Tryz.ntmps140
 go_wp2
 go_ret
 exact ⟨rfl,rfl⟩
theorem c96 (h:List Ob) (id st:Nat) (rows:List (List AV)) (c:h[id]? =some (.row 134 2 rows st)):ACalls Tryz.prog 140 [.tl id st] h λr h'=>r= .sl 2 rows/\h'=h.set id .gone:=by
 refine ⟨by kernel_rfl,⟨_,_,⟨rfl,rfl⟩,zC c rfl⟩,?_⟩
 intro φ m B w g vs j hB b
 obtain ⟨v1,l,rfl,i,f⟩:=b
 have f:l=[]:=f
 subst f
 obtain ⟨k1,k2⟩:=Kt j hB (zN c rfl)
 rw[<-qn rfl] at k1 k2
 obtain ⟨A,k,rfl,d,a⟩:=k2 _ i
 refine (kYa A rows.length k d w).mono ?_
 rintro e w' ⟨rfl,rfl⟩
 exact ⟨_,_,_,_,rfl,⟨rfl,rfl⟩,zC c rfl,k1,A,rows.length,rfl,Nat.le_refl _,a⟩
theorem YYa:ji Tryz.prog 140 [.v (.slice none 0 0)] (.v (.slice none 0 0)):=λh=>by
 refine ⟨by kernel_rfl,⟨_,_,⟨rfl,rfl⟩,.refl⟩,?_⟩
 intro φ i B w g vs d hB a
 obtain ⟨v1,f,rfl,b,c⟩:=a
 have c:f=[]:=c
 subst c
 have b:v1= .slice none 0 0:=b
 subst b
 refine (kYa none 0 0 (Nat.le_refl _) w).mono ?_
 rintro e w' ⟨rfl,rfl⟩
 exact ⟨_,_,_,_,rfl,⟨rfl,rfl⟩,.refl,Good.refl d hB,rfl⟩
end Go.Proofs.YtfmldcilgbbimaaGreat.Ax
