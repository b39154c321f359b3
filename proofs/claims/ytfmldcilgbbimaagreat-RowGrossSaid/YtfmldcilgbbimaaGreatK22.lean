/-
  Joined.
-/
import Derived.Test.YtfmldcilgbbimaaGreatK11
import Derived.Shelf.SlSortCmp.WholeK
import Derived.Shelf.SlSortCmp.NoneTotal
import Derived.Shelf.SlicesG.Cmp
import Derived.Test.YtfmldcilgbbimaaGreatK20
import Derived.Test.YtfmldcilgbbimaaGreatK21
set_option linter.unusedSimpArgs false
set_option linter.unusedVariables false
namespace Go.Proofs.YtfmldcilgbbimaaGreat.Ax
open Go Go.Proofs Go.Shelf
def VS:Go.Shelf.Ren:=⟨fun | 6=>138 | 15=>158 | 14=>202 | 28=>214 | 29=>141 | 20=>238 | 21=>239 | 22=>240 | 23=>241 | 24=>242 | 25=>243 | 26=>244 | 27=>245 | 46=>269 | 47=>257 | 48=>258 | 49=>270 | 50=>271 | 57=>279 | n=>n,fun | 22=>55 | 24=>134 | 25=>218 | 3=>3 | 39=>234 | 0=>0 | 53=>281 | 55=>221 | 4=>4 | 46=>274 | 45=>273 | 50=>278 | 5=>5 | 9=>9 | 66=>309 | 70=>101 | 76=>322 | 77=>156 | n=>n,fun | n=>n⟩
theorem WW:Go.Proofs.SlLaysF0.n6 Tryz.prog VS:={
 mixed:=by kernel_rfl
 f6:=⟨Tryz.f138.name,by decide,Tryz.func138.trans (congrArg some (by kernel_rfl))⟩
 f14:=⟨Tryz.f202.name,by decide,Tryz.func202.trans (congrArg some (by kernel_rfl))⟩
 f15:=Tryz.func158.trans (congrArg some (by kernel_rfl))
 f20:=⟨Tryz.f238.name,by decide,Tryz.func238.trans (congrArg some (by kernel_rfl))⟩
 f21:=⟨Tryz.f239.name,by decide,Tryz.func239.trans (congrArg some (by kernel_rfl))⟩
 f22:=⟨Tryz.f240.name,by decide,Tryz.func240.trans (congrArg some (by kernel_rfl))⟩
 f23:=⟨Tryz.f241.name,by decide,Tryz.func241.trans (congrArg some (by kernel_rfl))⟩
 f24:=⟨Tryz.f242.name,by decide,Tryz.func242.trans (congrArg some (by kernel_rfl))⟩
 f25:=⟨Tryz.f243.name,by decide,Tryz.func243.trans (congrArg some (by kernel_rfl))⟩
 f26:=⟨Tryz.f244.name,by decide,Tryz.func244.trans (congrArg some (by kernel_rfl))⟩
 f27:=⟨Tryz.f245.name,by decide,Tryz.func245.trans (congrArg some (by kernel_rfl))⟩
 f28:=Tryz.func214.trans (congrArg some (by kernel_rfl))
 f29:=Tryz.func141.trans (congrArg some (by kernel_rfl))
 f46:=⟨Tryz.f269.name,by decide,Tryz.func269.trans (congrArg some (by kernel_rfl))⟩
 f47:=Tryz.func257.trans (congrArg some (by kernel_rfl))
 f48:=Tryz.func258.trans (congrArg some (by kernel_rfl))
 f49:=⟨Tryz.f270.name,by decide,Tryz.func270.trans (congrArg some (by kernel_rfl))⟩
 f50:=⟨Tryz.f271.name,by decide,Tryz.func271.trans (congrArg some (by kernel_rfl))⟩
 f57:=⟨Tryz.f279.name,by decide,Tryz.func279.trans (congrArg some (by kernel_rfl))⟩
 t0:=Tryz.underlying0
 a0:=Tryz.isAgg0
 z0:=Tryz.sizeOf0
 v0:=Tryz.zeroValue0
 t3:=Tryz.underlying3
 a3:=Tryz.isAgg3
 z3:=Tryz.sizeOf3
 v3:=Tryz.zeroValue3
 t4:=Tryz.underlying4
 a4:=Tryz.isAgg4
 z4:=Tryz.sizeOf4
 v4:=Tryz.zeroValue4
 t5:=Tryz.underlying5
 a5:=Tryz.isAgg5
 z5:=Tryz.sizeOf5
 v5:=Tryz.zeroValue5
 t9:=Tryz.underlying9
 a9:=Tryz.isAgg9
 z9:=Tryz.sizeOf9
 v9:=Tryz.zeroValue9
 t22:=Tryz.underlying55
 a22:=Tryz.isAgg55
 z22:=Tryz.sizeOf55
 v22:=Tryz.zeroValue55
 t25:=Tryz.underlying218
 a25:=Tryz.isAgg218
 z25:=Tryz.sizeOf218
 v25:=Tryz.zeroValue218
 t39:=Tryz.underlying234
 a39:=Tryz.isAgg234
 z39:=Tryz.sizeOf234
 v39:=Tryz.zeroValue234
 t45:=Tryz.underlying273
 a45:=Tryz.isAgg273
 z45:=Tryz.sizeOf273
 v45:=Tryz.zeroValue273
 t46:=Tryz.underlying274
 a46:=Tryz.isAgg274
 z46:=Tryz.sizeOf274
 v46:=Tryz.zeroValue274
 t50:=Tryz.underlying278
 a50:=Tryz.isAgg278
 z50:=Tryz.sizeOf278
 v50:=Tryz.zeroValue278
 t53:=Tryz.underlying281
 a53:=Tryz.isAgg281
 z53:=Tryz.sizeOf281
 v53:=Tryz.zeroValue281
 t55:=Tryz.underlying221
 a55:=Tryz.isAgg221
 z55:=Tryz.sizeOf221
 v55:=Tryz.zeroValue221
 t66:=Tryz.underlying309
 a66:=Tryz.isAgg309
 z66:=Tryz.sizeOf309
 v66:=Tryz.zeroValue309
 t70:=Tryz.underlying101
 a70:=Tryz.isAgg101
 z70:=Tryz.sizeOf101
 v70:=Tryz.zeroValue101
 t76:=Tryz.underlying322
 a76:=Tryz.isAgg322
 z76:=Tryz.sizeOf322
 v76:=Tryz.zeroValue322
 t77:=Tryz.underlying156
 a77:=Tryz.isAgg156
 z77:=Tryz.sizeOf156
 v77:=Tryz.zeroValue156 }
def zwa:Go.Shelf.Ren:=⟨fun | 5=>108 | 7=>177 | n=>n,fun | 22=>3 | 3=>3 | 4=>4 | n=>n,fun | n=>n⟩
theorem kxa:Go.Proofs.SlLaysC2.n5 Tryz.prog zwa:={
 mixed:=by kernel_rfl
 f5:=⟨Tryz.f108.name,by decide,Tryz.func108.trans (congrArg some (by kernel_rfl))⟩
 f7:=⟨Tryz.f177.name,by decide,Tryz.func177.trans (congrArg some (by kernel_rfl))⟩
 t3:=Tryz.underlying3
 a3:=Tryz.isAgg3
 z3:=Tryz.sizeOf3
 v3:=Tryz.zeroValue3
 t4:=Tryz.underlying4
 a4:=Tryz.isAgg4
 z4:=Tryz.sizeOf4
 v4:=Tryz.zeroValue4
 t22:=Tryz.underlying3
 a22:=Tryz.isAgg3
 z22:=Tryz.sizeOf3
 v22:=Tryz.zeroValue3 }
end Go.Proofs.YtfmldcilgbbimaaGreat.Ax
namespace Go.Proofs.YtfmldcilgbbimaaGreat.Ax
open Go Go.Proofs Go.Shelf Go.RowKit Go.Lib Go.Sort
instance:Inhabited Spn:=⟨⟨0,0⟩⟩
def jR (x:Spn):List Value:=[.int .i64 x.from_,.int .i64 x.to_]
set_option maxHeartbeats 1000000 in
theorem jKa (x y:Spn) (W:World):Calls Tryz.prog 139 #[.agg #[.int .i64 x.from_,.int .i64 x.to_],.agg #[.int .i64 y.from_,.int .i64 y.to_]] W λe w'=>e= .returned (.int .i64 (Lib.compareInt x.from_ y.from_))/\∃q b,w'=grow (W.drewN q) b:=by
 have a:=λc=>AnyG.cmp_Compare_int kxa x.from_ y.from_ c
 change ∀c,Calls Tryz.prog 108 _ _ _ at a
 generalize Lib.compareInt x.from_ y.from_=r at a⊢
 go_enter Tryz.func139,Tryz.ntmps139
 go_wp2_with (go_at_call 108;refine (a _).mono ?_;rintro e w' ⟨rfl,rfl⟩)
 go_ret
 exact ⟨rfl,0,_,by rw[alloc_eq_grow,alloc_eq_grow,grow_grow];rfl⟩
theorem jLa (blk off size:Nat) (w:World):CmpLays Tryz.prog 139 #[] jR 2 (λx y=>Lib.compareInt x.from_ y.from_) blk off size w:=
 λ_ _ _ _ x y=>jKa x y _
theorem qoa (x y:Spn):ltOf (λx y:Spn=>Lib.compareInt x.from_ y.from_) x y=decide (x.from_<y.from_):=by
 unfold ltOf Lib.compareInt
 by_cases a:x.from_<y.from_
 ·simp[a]
 ·by_cases b:y.from_<x.from_<;>simp[a,b]
theorem y2a:SWO (ltOf λx y:Spn=>Lib.compareInt x.from_ y.from_):=
 { irrefl:=λx=>by rw[qoa];simp
   trans:=λx y z b a=>by rw[qoa] at *; simp at *; omega
   ntrans:=λx y z b a=>by rw[qoa] at *; simp at *; omega }
theorem wga (blk off cap:Nat) (d:Array Spn) (w:World) (i:HoldsK jR 2 w blk off d) (a:blk<w.heap.size) (c:d.size<4611686018427387904):
  Calls Tryz.prog 138 #[.slice (some ⟨blk,off,none⟩) d.size cap,.func (.func 139) #[] #[]] w λe w'=>e= .returned (.tuple #[])/\∃f n os,PermIn 0 d.size d f/\SortedIn (ltOf λx y:Spn=>Lib.compareInt x.from_ y.from_) 0 d.size f/\w'=sortWorldK jR 2 w blk off n f os:=by
 have h:∀args w,(callFunc 139 args).run Tryz.prog w= .ok (.enter 139 args) w:=enters_of Tryz.func139 (by kernel_rfl) rfl
 have b:=AnyQ.slices_SortFunc WW 2 Tryz.isAgg134 Tryz.sizeOf134 jR (λ_=>rfl) (λx v g=>by simp[jR] at g;rcases g with rfl | rfl<;>rfl) (λx y=>Lib.compareInt x.from_ y.from_) y2a 139 #[] blk off cap d w h (jLa blk off d.size w) i a c
 exact b
theorem WX (A:Option Addr) (cap:Nat) (b:Value) (w:World):Calls Tryz.prog 138 #[.slice A 0 cap,b] w λe w'=>e= .returned (.tuple #[])/\w'=w:=by
 have a:=AnyF.slices_SortFunc_none WW A cap b w
 exact a
def wD (l:List Spn):List Value:=(l.map jR).flatten
theorem QU:∀l:List Spn,(wD l).length=l.length*2
 | []=>rfl
 | x::l=>by
   have:=QU l
   simp only[wD,List.map_cons,List.flatten_cons,List.length_append,jR,List.length_cons,List.length_nil] at this⊢
   omega
theorem XG:∀(l:List Spn) (t:Nat),t<l.length*2->(wD l)[t]? =some ((jR l.toArray[t / 2]!)[t % 2]!)
 | [],t,h=>by simp at h
 | x::l,0,_=>by simp[wD,jR]
 | x::l,1,_=>by simp[wD,jR]
 | x::l,t+2,h=>by
   have:=XG l t (by simp at h;omega)
   have b:(t+2) / 2=t / 2+1:=by omega
   have a:(t+2) % 2=t % 2:=by omega
   have c:(wD (x::l))[t+2]? =(wD l)[t]? :=by simp[wD,jR]
   rw[c,this,b,a]
   simp
theorem zxa (l:List Spn):(flatK jR 2 l.toArray).toList=wD l:=by
 apply List.ext_getElem?
 intro t
 by_cases a:t<l.length*2
 ·rw[XG l t a]
  simp[flatK,a]
 ·rw[List.getElem?_eq_none (by simp;omega),List.getElem?_eq_none (by rw[QU];omega)]
theorem XH:∀l:List Spn,(l.map zD).flatten=(wD l).map .v
 | []=>rfl
 | x::l=>by
   have:=XH l
   simp only[wD,List.map_cons,List.flatten_cons,List.map_append] at this⊢
   rw[this]
   rfl
theorem XI {c:Ctx}:∀ {vs us:List Value},ARs c (vs.map .v) us->us=vs
 | [],_,h=>h
 | v::vs,us,⟨u,r,d,a,b⟩=>by
   have a:u=v:=a
   rw[d,a,XI b]
theorem WY (w:World) (blk n:Nat) (F:Array Value) (os:Array Obj) {cur:Array Value} {e:TypeId} {c:Nat × Nat} (b:w.heap[blk]? =some (.cells cur e c)):
  (grow (putRow id (Sort.ahead w n) blk 0 F) os).heap[blk]? =some (.cells (putCells id 0 F cur) e c):=by
 have a:=(Array.getElem?_eq_some_iff.1 b).1
 simp only[grow,putRow,mapBlock,Sort.ahead]
 rw[Array.getElem?_append_left (by simpa using a)]
 simp[Array.getElem?_modify,b,onCells]
theorem K2 (w:World) (blk n:Nat) (F:Array Value) (os:Array Obj):w.grownBy (grow (putRow id (Sort.ahead w n) blk 0 F) os) (some blk):=by
 refine ⟨rfl,rfl,rfl,by simp[grow,putRow,mapBlock,Sort.ahead],λk b a=>?_⟩
 simp only[grow,putRow,mapBlock,Sort.ahead]
 rw[Array.getElem?_append_left (by simpa using b),Array.getElem?_modify,if_neg (λe=>a (by rw[e]))]
theorem WZ (F cur:Array Value) (h:F.size<=cur.size):(putCells id 0 F cur).toList.take F.size=F.toList:=by
 apply List.ext_getElem?
 intro t
 by_cases b:t<F.size
 ·have a:t<cur.size:=by omega
  simp[putCells,List.getElem?_take,b,a]
 ·rw[List.getElem?_eq_none (by simp;omega),List.getElem?_eq_none (by simp;omega)]
theorem c93 (h:List Ob) (id st:Nat) (l:List Spn) (G:h[id]? =some (.row 134 2 (l.map zD) st)) (hl:l.length<1099511627776):
  ACalls Tryz.prog 138 [.tl id st,.fn (.func 139) [] []] h λr h'=>r= .tup []/\∃l':List Spn,l'.Perm l/\l'.Pairwise leS/\h'=h.set id (.row 134 2 (l'.map zD) st):=by
 refine ⟨by kernel_rfl,⟨_,_,⟨rfl,_,List.mergeSort_perm l (λa b=>decide (a.from_<=b.from_)),?_,rfl⟩,zJ G rfl⟩,?_⟩
 ·have:=List.pairwise_mergeSort (le:=λa b:Spn=>decide (a.from_<=b.from_)) (λa b c h1 h2=>by simp at *; omega) (λa b=>by simp;omega) l
  exact this.imp λh=>by simpa [leS] using h
 ·intro φ hu B w g vs P hB x
  have t:(fill φ h)[id]? =some (.row 134 2 (l.map zD) st):=zK G rfl
  obtain ⟨v1,r1,rfl,⟨_,M,D⟩,v2,Y,rfl,⟨us,vs,rfl,o,p⟩,O⟩:=x
  have O:Y=[]:=O
  subst O
  have o:us.toList=[]:=o
  have p:vs.toList=[]:=p
  have o:us= #[]:=by simpa using o
  have p:vs= #[]:=by simpa using p
  subst o;subst p
  have U:v1=g.cur id:=(D st (by simp[ctx,t,Ob.tok])).2 rfl
  obtain ⟨q0,q1,cells,W,V⟩:=P.ok id _ t
  rw[XH] at V
  have e1:=XI V
  subst e1
  by_cases E:l=[]
  ·subst E
   have I:∃A k,g.cur id= .slice A 0 k:=by
    rcases W.2 with ⟨f,_⟩ | ⟨u,cap,cur,f,_⟩
    ·exact ⟨_,_,f⟩
    ·exact ⟨_,_,f⟩
   obtain ⟨A,k,I⟩:=I
   rw[U,I]
   refine (WX A k _ w).mono ?_
   rintro e w' ⟨rfl,rfl⟩
   exact ⟨_,_,_,_,rfl,⟨rfl,[],.refl _,.nil,(zW G).symm⟩,.refl,Good.refl P hB, #[],rfl,rfl⟩
  rcases W.2 with ⟨_,f⟩ | ⟨u,cap,cur,f,e4,F,N,X,Q,R⟩
  ·exfalso
   simp at f
   exact E f
  ·have f:g.cur id=_:=f
   simp only[List.length_map] at f N R
   have L:l.length*2<=cur.size:=by rw[Q];exact Nat.mul_le_mul_right _ N
   have K:∀j,j<l.length*2->cur[j]? =some ((jR l.toArray[j / 2]!)[j % 2]!):=λj s=>by
    rw[<-XG l j s, <-R,List.getElem?_take,if_pos s,Array.getElem?_toList]
   have hH:HoldsK jR 2 w u 0 l.toArray:=λj s=>by
    have s:j<l.length*2:=by simpa using s
    refine ⟨?_,?_⟩
    ·simp only[World.cell?,F,Nat.zero_add]
     rw[get_flatK _ _ _ _ (by simpa using s)]
     exact K j s
    ·simp[World.frozen?,F]
   have m:=wga u 0 cap l.toArray w hH (Array.getElem?_eq_some_iff.1 F).1 (by simp;omega)
   rw[U,f]
   have J:l.toArray.size=l.length:=by simp
   rw[J] at m
   refine m.mono ?_
   rintro e w' ⟨rfl,d,n,os,hp,Z,rfl⟩
   obtain ⟨p1,p2,T⟩:=hp
   have C:d.size=l.length:=by rw[p1];simp
   have v:d.toList.Perm l:=by
    have a1:d.extract 0 l.length=d:=by rw[<-C];simp
    have a2:l.toArray.extract 0 l.length=l.toArray:=by simp
    rw[a1,a2] at T
    exact T
   have y:d.toList.Pairwise leS:=by
    rw[List.pairwise_iff_getElem]
    intro i j S s H
    simp only[Array.length_toList] at S s
    have:=Z i j (by omega) H (by omega)
    rw[qoa,getElem!_pos d i S,getElem!_pos d j s] at this
    simp at this
    simpa [leS] using this
   have hF:(flatK jR 2 d).toList=wD d.toList:=zxa d.toList
   have z:(flatK jR 2 d).size=l.length*2:=by simp[C]
   have q:=Z5 (w':=sortWorldK jR 2 w u 0 n d os) (v':=g.cur id) (st':=st) (xs':=d.toList.map zD) (cells:=wD d.toList) P hB t (by simp) (by rw[f];exact K2 w u n _ os)
    ⟨by rw[QU];simp,.inr ⟨u,cap,_,by simp[f,C],e4,WY w u n _ os F,by simp[C];exact N,X,by simp[putCells];exact Q,by
     have:=WZ (flatK jR 2 d) cur (by rw[z];exact L)
     rw[hF,z] at this
     simpa [C] using this⟩⟩ (by rw[XH];exact Z3 _) (.inl ⟨rfl,rfl⟩) (λb hb=> .inl hb)
   rw[<-qS rfl] at q
   exact ⟨_,_,_,_,rfl,⟨rfl,d.toList,v,y,rfl⟩,zJ G rfl,q, #[],rfl,rfl⟩
theorem JKa (x:AV):qX Tryz.prog 138 [.v (.slice none 0 0),x] (.tup []):=λh=>by
 refine ⟨by kernel_rfl,⟨_,_,⟨rfl,rfl⟩,.refl⟩,?_⟩
 intro φ k B w g vs i hB a
 obtain ⟨v1,j,rfl,c,f,d,rfl,_,b⟩:=a
 have b:d=[]:=b
 subst b
 have c:v1= .slice none 0 0:=c
 subst c
 refine (WX none 0 f w).mono ?_
 rintro e w' ⟨rfl,rfl⟩
 exact ⟨_,_,_,_,rfl,⟨rfl,rfl⟩,.refl,Good.refl i hB, #[],rfl,rfl⟩
end Go.Proofs.YtfmldcilgbbimaaGreat.Ax
namespace Go.Proofs.YtfmldcilgbbimaaGreat.Ax
open Go Go.Proofs
set_option maxRecDepth 100000
theorem zya (l:List Spn) (x:Spn):qG (l++[x])=if (jj x).from_<(jj x).to_ then qG l++[jj x] else qG l:=by
 unfold qG
 rw[List.map_append,List.filter_append]
 by_cases h:(jj x).from_<(jj x).to_
 ·simp[h]
 ·simp[h]
set_option maxHeartbeats 1000000 in
theorem c65 (h:List Ob) (x:AV) (l:List Spn) (hx:SlOf h x 2 (l.map zD)) (hl:l.length<1099511627776):
  ACalls Tryz.prog 65 [x] h λr h'=>∃L,h'=h++L/\NoRes L/\New h 2 r ((zw l).map zD) L:=by
 have hex:∃r h',(∃L,h'=h++L/\NoRes L/\New h 2 r ((zw l).map zD) L)/\ResK h h':=
  ⟨.sl 2 _,_,⟨[],rfl,jF,λ_ _=>⟨rfl,λ_=>rfl⟩⟩,zT⟩
 refine zf Tryz.f65 [.tmp 2] 76 rfl rfl rfl rfl rfl rfl (by decide) (hex) λB=>?_
 rw[qQ,qQ,qQ]
 refine wT (λT h'=>Pre h h'/\∃l':List Spn,OwnS h h' 134 2 (T 3) (l'.map zD)/\l'.Perm (qG l)/\l'.Pairwise leS) ?_ ?_
 ·simp only[go_sem,hx.rows,List.length_map]
  refine zk (by decide) (λm T h'=>∃k:Nat,k<=l.length/\Pre h h'/\OwnS h h' 134 2 (T 3) ((qG (l.take k)).map zD)/\T 10=x/\T 11=i64 l.length/\T 12=i64 k/\m=l.length - k) l.length
   ⟨0,by omega,Pre.refl,.inl ⟨by simp only[go_sem],rfl⟩,by simp only[go_sem],by simp only[go_sem],by (simp only[go_sem]<;>rfl),rfl⟩ ?_
  rintro m T h' ⟨k,hk,g,G,t10,J,u,rfl⟩
  simp only[go_sem,J,u]
  refine ways (λe=>?_) (λe=>?_)
  ·have f:=dlt e
   have ν:SlOf h' x 2 (l.map zD):=by
    obtain ⟨L,rfl,_⟩:=g
    exact hx.app _
   have φ:=ν.at (i:=k) (by simpa using f)
   have d:(l.map zD)[k]? =some (zD l[k]):=by rw[List.getElem?_map,List.getElem?_eq_getElem f];rfl
   have P:(k:Int)<l.length:=by omega
   have a:=zya (l.take k) l[k]
   rw[List.take_append_getElem f] at a
   obtain ⟨y,hy⟩:∃y,y=l[k]:=⟨_,rfl⟩
   rw[<-hy] at d a
   have fin:k+1<=l.length:=by omega
   have hA:List.length (zD y)=2:=rfl
   simp only[go_sem,t10,u,φ,ν.rows,d,P,List.length_map,Int.toNat_natCast,Int.natCast_nonneg,wV,wU]
   refine ways (λj=>?_) (λj=>?_)
   ·have j:(jj y).from_<(jj y).to_:=by simpa [jj] using j
    rw[if_pos j] at a
    rcases G with ⟨t3,R⟩ | ⟨id,st,O,t3,K⟩
    ·simp only[go_sem,t3,u]
     refine ⟨l.length - (k+1),by omega,k+1,fin,g.app (zg rfl (zg rfl (zj rfl))),.inr ⟨_,_,by have:=g.len;omega,rfl,?_⟩,t10,J,zy (by omega) rfl,rfl⟩
     rw[a,List.map_append,R,zl rfl]
     rfl
    ·have H:((qG (l.take k)).map zD).length+1<=1099511627776:=by
      have:=Ze (l.take k)
      rw[List.length_take] at this
      rw[List.length_map];omega
     have H:(((qG (l.take k)).map zD).length+1)*17<=140737488355328:=by omega
     have t:∀M,(h'++M)[id]? =some (.row 134 2 ((qG (l.take k)).map zD) st):=λM=>zb K
     simp only[go_sem,t3,u,t,H]
     refine ⟨l.length - (k+1),by omega,k+1,fin,(g.app (zg rfl (zj rfl))).set O rfl,.inr ⟨id,st+1,O,rfl,?_⟩,t10,J,zy (by omega) rfl,rfl⟩
     rw[a,List.map_append]
     exact zh (t _)
   ·have j:¬ (jj y).from_<(jj y).to_:=by simpa [jj] using j
    rw[if_neg j] at a
    simp only[go_sem,u]
    exact ⟨l.length - (k+1),by omega,k+1,fin,g.app (zj rfl),by rw[a];exact G.app _,t10,J,zy (by omega) rfl,rfl⟩
  ·have χ:=jd e
   have X:k=l.length:=by omega
   subst X
   rw[List.take_length] at G
   rcases G with ⟨t3,R⟩ | ⟨id,st,O,t3,K⟩
   ·simp only[go_sem,t3]
    refine zd (JKa _ _) ?_
    rintro _ h4 ⟨rfl,e1⟩
    subst e1
    simp only[go_sem]
    exact ⟨g,[],.inl ⟨t3,rfl⟩,by rw[show qG l=[] by simpa using R],.nil⟩
   ·simp only[go_sem,t3]
    refine zd (c93 _ id st (qG l) K (by have:=Ze l;omega)) ?_
    rintro _ h4 ⟨rfl,l',p1,p2,rfl⟩
    simp only[go_sem]
    exact ⟨g.set O rfl,l',.inr ⟨id,st,O,t3,zh K⟩,p1,p2⟩
 ·rintro T h' ⟨g,l',G,w,Z⟩
  have V:=jGa w Z
  have hlen:l'.length<=l.length:=by rw[w.length_eq];exact Ze l
  simp only[go_sem,G.rows.rows,List.length_map]
  refine zk (by decide) (λm Q h'=>∃(k:Nat) (out:List Spn),k<=l'.length/\Pre h h'/\OwnS h h' 134 2 (T 3) (l'.map zD)/\OwnS h h' 134 2 (Q 6) (out.map zD)/\(∀i1 s1 i2 s2,T 3= .tl i1 s1->Q 6= .tl i2 s2->i1≠i2)/\out.length<=k/\((k=0/\out=[]/\Q 6= .v (.slice none 0 0))∨∃D c,out=D++[c]/\0<k/\vG l'=D++jG c (l'.drop k))/\Q 35=T 3/\Q 36=i64 l'.length/\Q 37=i64 k/\m=l'.length - k) l'.length
   ⟨0,[],by omega,g,G,.inl ⟨by simp only[go_sem],rfl⟩,(λ_ _ _ _ _ q=>by simp only[go_sem] at q),Nat.le_refl _,.inl ⟨rfl,rfl,by simp only[go_sem]⟩,by simp only[go_sem],by simp only[go_sem],by (simp only[go_sem]<;>rfl),rfl⟩ ?_
  obtain ⟨y,hy⟩:∃y,y=T 3:=⟨_,rfl⟩
  rw[<-hy]
  clear G g
  rintro m Q h' ⟨k,out,hk,g,G,hu,ζ,N,hj,F,I,o,rfl⟩
  simp only[go_sem,I,o]
  refine ways (λe=>?_) (λe=>?_)
  ·have f:=dlt e
   have d:(l'.map zD)[k]? =some (zD l'[k]):=by rw[List.getElem?_map,List.getElem?_eq_getElem f];rfl
   have b:l'.drop k=l'[k]::l'.drop (k+1):=List.drop_eq_getElem_cons f
   rcases G with ⟨_,R⟩ | ⟨id,st,O,n,K⟩
   ·rw[List.map_eq_nil_iff] at R
    rw[R] at f;simp at f
   have t:∀M,(h'++M)[id]? =some (.row 134 2 (l'.map zD) st):=λM=>zb K
   have P:(k:Int)<l'.length:=by omega
   obtain ⟨z,hz⟩:∃z,z=l'[k]:=⟨_,rfl⟩
   rw[<-hz] at d b
   rcases hj with ⟨α,rfl,t6⟩ | ⟨D,c,rfl,α,hm⟩
   ·simp only[go_sem,F,n,o,t6,K,t,d,P,List.length_map,Int.toNat_natCast,Int.natCast_nonneg]
    refine zp rfl [] 0 [(0,0,[]),(1,0,[]),(2,0,[]),(3,0,[]),(5,0,[]),(6,0,[]),(7,0,[]),(4,0,[]),(8,0,[]),(9,0,[]),(10,0,[]),(11,0,[]),(12,0,[])] rfl (by decide) (by decide) ?_
    have τ:decide ((0:Int)>0)=false:=rfl
    simp only[go_sem,F,n,o,t6,t,τ]
    have hlen2:=g.len
    have hid:id<h'.length:=(List.getElem?_eq_some_iff.1 K).1
    refine ⟨l'.length - (k+1),by omega,k+1,[z],by omega,g.app (zg rfl (zg rfl (zj rfl))),.inr ⟨id,st,O,rfl,t _⟩,.inr ⟨_,_,by omega,rfl,by rw[zl rfl];rfl⟩,(λi1 s1 i2 s2 Y S=>?_),by simp,.inr ⟨[],z,rfl,by omega,?_⟩,I,zy (by omega) rfl,rfl⟩
    ·injection Y with Y;injection S with S;omega
    ·rw[α,List.drop_zero] at b
     rw[b,α]
     rfl
   ·have μ:wr (((D.length+1:Nat):Int) - 1)=(D.length:Int):=by
     rw[zt (by simp at N;unfold Fit;omega)];omega
    have σ:decide (((D.length+1:Nat):Int)>0)=true:=by simp
    have A:((D++[c]).map zD).length=D.length+1:=by simp
    have β:((D++[c]).map zD)[D.length]? =some (zD c):=by simp
    have ι:(D.length:Int)<((D.length+1:Nat):Int):=by omega
    obtain ⟨out,C⟩:∃out,out=(D++[c]).map zD:=⟨_,rfl⟩
    rcases hu with ⟨_,R⟩ | ⟨U,W,u1,s,u3⟩
    ·simp at R
    have ξ:=ζ _ _ _ _ n s
    rw[<-C] at u3 A β
    have p:∀M,(h'++M)[U]? =some (.row 134 2 out W):=λM=>zb u3
    simp only[go_sem,F,n,o,s,K,u3,t,p,d,P,A,List.length_map,Int.toNat_natCast,Int.natCast_nonneg]
    refine zp rfl [] 0 [(0,0,[]),(1,0,[]),(2,0,[]),(3,0,[]),(5,0,[]),(6,0,[]),(7,0,[]),(4,0,[]),(8,0,[]),(9,0,[]),(10,0,[]),(11,0,[]),(12,0,[])] rfl (by decide) (by decide) ?_
    simp only[go_sem,s,t,p,σ,μ,β,A,ι,Int.toNat_natCast,Int.natCast_nonneg]
    refine ways (λj=>?_) (λj=>?_)
    ·have j:z.from_<=c.to_:=by simpa using j
     simp only[go_sem]
     refine zp rfl [] 0 [(0,0,[]),(1,0,[]),(2,0,[]),(3,0,[]),(4,0,[]),(5,0,[]),(9,0,[]),(6,0,[]),(7,0,[]),(8,0,[]),(10,0,[]),(11,0,[]),(12,0,[]),(13,0,[]),(14,0,[])] rfl (by decide) (by decide) ?_
     simp only[go_sem,s,t,p,μ,β,A,ι,Int.toNat_natCast,Int.natCast_nonneg,wV,o]
     obtain ⟨c2,κ⟩:∃c2:Spn,c2=⟨c.from_,max c.to_ z.to_⟩:=⟨_,rfl⟩
     have E:out.set D.length [i64 c.from_,i64 (max c.to_ z.to_)]=(D++[c2]).map zD:=by
      rw[C,κ];simp
     rw[E]
     refine ⟨l'.length - (k+1),by omega,k+1,D++[c2],by omega,(g.app (zj rfl)).set u1 rfl,.inr ⟨id,st,O,rfl,?_⟩,.inr ⟨U,W,u1,rfl,zh (p _)⟩,(λi1 s1 i2 s2 Y S=>ζ i1 s1 i2 s2 (n.trans Y) (s.trans S)),by simp at N ⊢;omega,.inr ⟨D,_,rfl,by omega,?_⟩,by rw[F,n],I,zy (by omega) rfl,rfl⟩
     ·rw[List.getElem?_set_ne (Ne.symm ξ)];exact t _
     ·rw[hm,b,jG,if_pos j,κ]
    ·have j:¬ z.from_<=c.to_:=by simpa using j
     have H:(out.length+1)*17<=140737488355328:=by rw[A];simp at N;omega
     simp only[go_sem,s,t,p,H,o]
     have E:out++[[i64 z.from_,i64 z.to_]]=((D++[c])++[z]).map zD:=by
      rw[C];simp
     rw[E]
     refine ⟨l'.length - (k+1),by omega,k+1,(D++[c])++[z],by omega,(g.app (zg rfl (zj rfl))).set u1 rfl,.inr ⟨id,st,O,rfl,?_⟩,.inr ⟨U,W+1,u1,rfl,zh (p _)⟩,(λi1 s1 i2 s2 Y S=>?_),by simp at N ⊢;omega,.inr ⟨D++[c],z,rfl,by omega,?_⟩,by rw[F,n],I,zy (by omega) rfl,rfl⟩
     ·rw[List.getElem?_set_ne (Ne.symm ξ)];exact t _
     ·injection Y with Y;injection S with S;omega
     ·rw[hm,b,jG,if_neg j,List.append_assoc]
      rfl
  ·have χ:=jd e
   have X:k=l'.length:=by omega
   have θ:out=vG l':=by
    rcases hj with ⟨h0,h1,_⟩ | ⟨D,c,h0,_,h1⟩
    ·have:l'=[]:=List.length_eq_zero_iff.1 (by omega)
     rw[h1,this];rfl
    ·rw[h1,h0,X,List.drop_length];simp[jG]
   subst θ
   simp only[go_sem]
   obtain ⟨L,rfl,hN⟩:=g
   exact ⟨Q 6,by simp only[go_sem],.inl ⟨L,rfl,hN,by rw[<-V];exact hu.new (Nat.le_refl _)⟩⟩
end Go.Proofs.YtfmldcilgbbimaaGreat.Ax
namespace Go.Proofs.YtfmldcilgbbimaaGreat.Ax
open Go Go.Proofs Go.RowKit Go.Lib
theorem qpa (A:Option Addr) (n k:Nat) (a:n<=k) (w:World):Calls Tryz.prog 140 #[.slice A n k] w λe w'=>(e= .returned (.slice A n n)/\w'=w):=by
 have c:(n:Int)<=(k:Int):=by omega
 have b:(0:Int)<=(n:Int):=by omega
 go_enter Tryz.func140,Tryz.ntmps140
 go_wp2
 go_ret
 exact ⟨rfl,rfl⟩
theorem c96 (h:List Ob) (id st:Nat) (rows:List (List AV)) (f:h[id]? =some (.row 134 2 rows st)):ACalls Tryz.prog 140 [.tl id st] h λr h'=>r= .sl 2 rows/\h'=h.set id .gone:=by
 refine ⟨by kernel_rfl,⟨_,_,⟨rfl,rfl⟩,zJ f rfl⟩,?_⟩
 intro φ m B w g vs l hB a
 obtain ⟨v1,i,rfl,j,c⟩:=a
 have c:i=[]:=c
 subst c
 obtain ⟨k1,k2⟩:=Jg l hB (zK f rfl)
 rw[<-qS rfl] at k1 k2
 obtain ⟨A,k,rfl,d,b⟩:=k2 _ j
 refine (qpa A rows.length k d w).mono ?_
 rintro e w' ⟨rfl,rfl⟩
 exact ⟨_,_,_,_,rfl,⟨rfl,rfl⟩,zJ f rfl,k1,A,rows.length,rfl,Nat.le_refl _,b⟩
theorem JLa:qX Tryz.prog 140 [.v (.slice none 0 0)] (.v (.slice none 0 0)):=λh=>by
 refine ⟨by kernel_rfl,⟨_,_,⟨rfl,rfl⟩,.refl⟩,?_⟩
 intro φ i B w g vs f hB a
 obtain ⟨v1,d,rfl,c,b⟩:=a
 have b:d=[]:=b
 subst b
 have c:v1= .slice none 0 0:=c
 subst c
 refine (qpa none 0 0 (Nat.le_refl _) w).mono ?_
 rintro e w' ⟨rfl,rfl⟩
 exact ⟨_,_,_,_,rfl,⟨rfl,rfl⟩,.refl,Good.refl f hB,rfl⟩
end Go.Proofs.YtfmldcilgbbimaaGreat.Ax
