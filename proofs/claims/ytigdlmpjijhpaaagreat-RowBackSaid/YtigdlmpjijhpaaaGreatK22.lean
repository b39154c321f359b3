import Derived.Test.YtigdlmpjijhpaaaGreatKA
import Derived.Test.YtigdlmpjijhpaaaGreatK11
import Derived.Shelf.SlSortCmp.WholeK
import Derived.Shelf.SlSortCmp.NoneTotal
import Derived.Shelf.SlicesG.Cmp
import Derived.Test.YtigdlmpjijhpaaaGreatK20
import Derived.Test.YtigdlmpjijhpaaaGreatK21
set_option linter.all false
namespace Go.Proofs.YtigdlmpjijhpaaaGreat.Ax
open Go Go.Proofs Go.Shelf
def zUa:Go.Shelf.Ren:=⟨fun|6=>152|15=>175|14=>220|28=>236|29=>155|20=>260|21=>261|22=>262|23=>263|24=>264|25=>265|26=>266|27=>267|46=>291|47=>279|48=>280|49=>292|50=>293|57=>302|n=>n,fun|22=>55|24=>143|25=>238|3=>3|39=>258|0=>0|53=>308|55=>241|4=>4|46=>302|45=>301|50=>174|5=>5|9=>9|66=>335|70=>109|76=>349|77=>167|n=>n,fun|n=>n⟩
theorem q5a:Go.Proofs.SlLaysF0.n6 Tryz.prog zUa:={
 mixed:=by kernel_rfl
 f6:=⟨Tryz.f152.name,by decide,Tryz.func152.trans (congrArg some (by kernel_rfl))⟩
 f14:=⟨Tryz.f220.name,by decide,Tryz.func220.trans (congrArg some (by kernel_rfl))⟩
 f15:=Tryz.func175.trans (congrArg some (by kernel_rfl))
 f20:=⟨Tryz.f260.name,by decide,Tryz.func260.trans (congrArg some (by kernel_rfl))⟩
 f21:=⟨Tryz.f261.name,by decide,Tryz.func261.trans (congrArg some (by kernel_rfl))⟩
 f22:=⟨Tryz.f262.name,by decide,Tryz.func262.trans (congrArg some (by kernel_rfl))⟩
 f23:=⟨Tryz.f263.name,by decide,Tryz.func263.trans (congrArg some (by kernel_rfl))⟩
 f24:=⟨Tryz.f264.name,by decide,Tryz.func264.trans (congrArg some (by kernel_rfl))⟩
 f25:=⟨Tryz.f265.name,by decide,Tryz.func265.trans (congrArg some (by kernel_rfl))⟩
 f26:=⟨Tryz.f266.name,by decide,Tryz.func266.trans (congrArg some (by kernel_rfl))⟩
 f27:=⟨Tryz.f267.name,by decide,Tryz.func267.trans (congrArg some (by kernel_rfl))⟩
 f28:=Tryz.func236.trans (congrArg some (by kernel_rfl))
 f29:=Tryz.func155.trans (congrArg some (by kernel_rfl))
 f46:=⟨Tryz.f291.name,by decide,Tryz.func291.trans (congrArg some (by kernel_rfl))⟩
 f47:=Tryz.func279.trans (congrArg some (by kernel_rfl))
 f48:=Tryz.func280.trans (congrArg some (by kernel_rfl))
 f49:=⟨Tryz.f292.name,by decide,Tryz.func292.trans (congrArg some (by kernel_rfl))⟩
 f50:=⟨Tryz.f293.name,by decide,Tryz.func293.trans (congrArg some (by kernel_rfl))⟩
 f57:=⟨Tryz.f302.name,by decide,Tryz.func302.trans (congrArg some (by kernel_rfl))⟩
 t0:=Tryz.underlying0
 a0:=Tryz.isAgg0
 z0:=Tryz.sizeOf0
 v0:=Tryz.zeroValue0
 t3:=Tryz.underlying3
 a3:=Tryz.isAgg3
 z3:=Tryz.sizeOf3
 v3:=Tryz.zeroValue3
 t4:=Tryz.underlying4
 a4:=Tryz.isAgg4
 z4:=Tryz.sizeOf4
 v4:=Tryz.zeroValue4
 t5:=Tryz.underlying5
 a5:=Tryz.isAgg5
 z5:=Tryz.sizeOf5
 v5:=Tryz.zeroValue5
 t9:=Tryz.underlying9
 a9:=Tryz.isAgg9
 z9:=Tryz.sizeOf9
 v9:=Tryz.zeroValue9
 t22:=Tryz.underlying55
 a22:=Tryz.isAgg55
 z22:=Tryz.sizeOf55
 v22:=Tryz.zeroValue55
 t25:=Tryz.underlying238
 a25:=Tryz.isAgg238
 z25:=Tryz.sizeOf238
 v25:=Tryz.zeroValue238
 t39:=Tryz.underlying258
 a39:=Tryz.isAgg258
 z39:=Tryz.sizeOf258
 v39:=Tryz.zeroValue258
 t45:=Tryz.underlying301
 a45:=Tryz.isAgg301
 z45:=Tryz.sizeOf301
 v45:=Tryz.zeroValue301
 t46:=Tryz.underlying302
 a46:=Tryz.isAgg302
 z46:=Tryz.sizeOf302
 v46:=Tryz.zeroValue302
 t50:=Tryz.underlying174
 a50:=Tryz.isAgg174
 z50:=Tryz.sizeOf174
 v50:=Tryz.zeroValue174
 t53:=Tryz.underlying308
 a53:=Tryz.isAgg308
 z53:=Tryz.sizeOf308
 v53:=Tryz.zeroValue308
 t55:=Tryz.underlying241
 a55:=Tryz.isAgg241
 z55:=Tryz.sizeOf241
 v55:=Tryz.zeroValue241
 t66:=Tryz.underlying335
 a66:=Tryz.isAgg335
 z66:=Tryz.sizeOf335
 v66:=Tryz.zeroValue335
 t70:=Tryz.underlying109
 a70:=Tryz.isAgg109
 z70:=Tryz.sizeOf109
 v70:=Tryz.zeroValue109
 t76:=Tryz.underlying349
 a76:=Tryz.isAgg349
 z76:=Tryz.sizeOf349
 v76:=Tryz.zeroValue349
 t77:=Tryz.underlying167
 a77:=Tryz.isAgg167
 z77:=Tryz.sizeOf167
 v77:=Tryz.zeroValue167 }
def xVa:Go.Shelf.Ren:=⟨fun|5=>122|7=>195|n=>n,fun|22=>3|3=>3|4=>4|n=>n,fun|n=>n⟩
theorem Zqa:Go.Proofs.SlLaysC2.n5 Tryz.prog xVa:={
 mixed:=by kernel_rfl
 f5:=⟨Tryz.f122.name,by decide,Tryz.func122.trans (congrArg some (by kernel_rfl))⟩
 f7:=⟨Tryz.f195.name,by decide,Tryz.func195.trans (congrArg some (by kernel_rfl))⟩
 t3:=Tryz.underlying3
 a3:=Tryz.isAgg3
 z3:=Tryz.sizeOf3
 v3:=Tryz.zeroValue3
 t4:=Tryz.underlying4
 a4:=Tryz.isAgg4
 z4:=Tryz.sizeOf4
 v4:=Tryz.zeroValue4
 t22:=Tryz.underlying3
 a22:=Tryz.isAgg3
 z22:=Tryz.sizeOf3
 v22:=Tryz.zeroValue3 }
open Go.RowKit Go.Lib Go.Sort
instance:Inhabited Spn:=⟨⟨0,0⟩⟩
def kN(x:Spn):List Value:=[.int .i64 x.from_,.int .i64 x.to_]
set_option maxHeartbeats 1000000 in
theorem wta(x y:Spn)(W:World):Calls Tryz.prog 153 #[.agg #[.int .i64 x.from_,.int .i64 x.to_],.agg #[.int .i64 y.from_,.int .i64 y.to_]] W λe w'=>e= .returned (.int .i64 (Lib.compareInt x.from_ y.from_))/\∃q b,w'=grow (W.drewN q) b:=by
 have a:=λc=>AnyG.cmp_Compare_int Zqa x.from_ y.from_ c
 change ∀c,Calls Tryz.prog 122 _ _ _ at a
 generalize Lib.compareInt x.from_ y.from_=r at a⊢
 go_enter Tryz.func153,Tryz.ntmps153
 go_wp2_with (go_at_call 122;refine(a _).mono ?_;rintro e w' ⟨rfl,rfl⟩)
 go_ret
 exact⟨rfl,0,_,by rw[alloc_eq_grow,alloc_eq_grow,grow_grow];rfl⟩
theorem wua(blk off size:Nat)(w:World):CmpLays Tryz.prog 153 #[] kN 2 (λx y=>Lib.compareInt x.from_ y.from_) blk off size w:=
 λ_ _ _ _ x y=>wta x y _
theorem kYa(x y:Spn):ltOf (λx y:Spn=>Lib.compareInt x.from_ y.from_) x y=decide (x.from_<y.from_):=by
 unfold ltOf Lib.compareInt
 by_cases a:x.from_<y.from_
 ·simp[a]
 ·by_cases b:y.from_<x.from_<;>simp[a,b]
theorem Kra:SWO (ltOf λx y:Spn=>Lib.compareInt x.from_ y.from_):=
 { irrefl:=λx=>by rw[kYa];simp
   trans:=λx y z b a=>by rw[kYa] at *; simp at *; omega
   ntrans:=λx y z b a=>by rw[kYa] at *; simp at *; omega }
theorem Jca(blk off cap:Nat)(d:Array Spn)(w:World)(h:HoldsK kN 2 w blk off d)(b:blk<w.heap.size)(c:d.size<4611686018427387904):
  Calls Tryz.prog 152 #[.slice (some ⟨blk,off,none⟩) d.size cap,.func (.func 153) #[] #[]] w λe w'=>e= .returned (.tuple #[])/\∃f n os,PermIn 0 d.size d f/\SortedIn (ltOf λx y:Spn=>Lib.compareInt x.from_ y.from_) 0 d.size f/\w'=sortWorldK kN 2 w blk off n f os:=by
 have i:∀args w,(callFunc 153 args).run Tryz.prog w= .ok (.enter 153 args) w:=enters_of Tryz.func153 (by kernel_rfl) rfl
 have a:=AnyQ.slices_SortFunc q5a 2 Tryz.isAgg143 Tryz.sizeOf143 kN (λ_=>rfl) (λx v g=>by simp[kN] at g;rcases g with rfl|rfl<;>rfl) (λx y=>Lib.compareInt x.from_ y.from_) Kra 153 #[] blk off cap d w i (wua blk off d.size w) h b c
 exact a
theorem q6a(A:Option Addr)(cap:Nat)(b:Value)(w:World):Calls Tryz.prog 152 #[.slice A 0 cap,b] w λe w'=>e= .returned (.tuple #[])/\w'=w:=by
 have a:=AnyF.slices_SortFunc_none q5a A cap b w
 exact a
def Zw(l:List Spn):List Value:=(l.map kN).flatten
theorem Ke:∀l:List Spn,(Zw l).length=l.length*2
 | []=>rfl
 | x::l=>by
   have:=Ke l
   simp only[Zw,List.map_cons,List.flatten_cons,ze,kN,List.length_cons,List.length_nil] at this⊢
   omega
theorem Wc:∀(l:List Spn) (t:Nat),t<l.length*2->(Zw l)[t]? =some ((kN l.toArray[t / 2]!)[t % 2]!)
 | [],t,h=>by simp at h
 | x::l,0,_=>by simp[Zw,kN]
 | x::l,1,_=>by simp[Zw,kN]
 | x::l,t+2,h=>by
   have:=Wc l t (by simp at h;omega)
   have a:(t+2) / 2=t / 2+1:=by omega
   have b:(t+2) % 2=t % 2:=by omega
   have c:(Zw (x::l))[t+2]? =(Zw l)[t]? :=by simp[Zw,kN]
   rw[c,this,a,b]
   simp
theorem xYa(l:List Spn):(flatK kN 2 l.toArray).toList=Zw l:=by
 apply qD
 intro t
 by_cases a:t<l.length*2
 ·rw[Wc l t a]
  simp[flatK,a]
 ·rw[qf (by simp;omega),qf (by rw[Ke];omega)]
theorem Wd:∀l:List Spn,(l.map qq).flatten=(Zw l).map .v
 | []=>rfl
 | x::l=>by
   have:=Wd l
   simp only[Zw,List.map_cons,List.flatten_cons,zy] at this⊢
   rw[this]
   rfl
theorem We{c:Ctx}:∀ {vs us:List Value},ARs c (vs.map .v) us->us=vs
 | [],_,h=>h
 | v::vs,us,⟨u,r,d,a,b⟩=>by
   have a:u=v:=a
   rw[d,a,We b]
theorem q7a(w:World)(blk n:Nat)(F:Array Value)(os:Array Obj){cur:Array Value}{e:TypeId}{b:Nat × Nat}(c:w.heap[blk]? =some (.cells cur e b)):
  (grow (putRow id (Sort.ahead w n) blk 0 F) os).heap[blk]? =some (.cells (putCells id 0 F cur) e b):=by
 have a:=(qm.1 c).1
 simp only[grow,putRow,mapBlock,Sort.ahead]
 rw[Array.getElem?_append_left (by simpa using a)]
 simp[Array.getElem?_modify,c,onCells]
theorem YR(w:World)(blk n:Nat)(F:Array Value)(os:Array Obj):w.grownBy (grow (putRow id (Sort.ahead w n) blk 0 F) os) (some blk):=by
 refine⟨rfl,rfl,rfl,by simp[grow,putRow,mapBlock,Sort.ahead],λk b a=>?_⟩
 simp only[grow,putRow,mapBlock,Sort.ahead]
 rw[Array.getElem?_append_left (by simpa using b),Array.getElem?_modify,if_neg (λe=>a (by rw[e]))]
theorem q8a(F cur:Array Value)(h:F.size<=cur.size):(putCells id 0 F cur).toList.take F.size=F.toList:=by
 apply qD
 intro t
 by_cases a:t<F.size
 ·have b:t<cur.size:=by omega
  simp[putCells,qO,a,b]
 ·rw[qf (by simp;omega),qf (by simp;omega)]
theorem c93(h:List Ob)(id st:Nat)(l:List Spn)(G:h[id]? =some (.row 143 2 (l.map qq) st))(hl:l.length<1099511627776):
  ACalls Tryz.prog 152 [.tl id st,.fn (.func 153) [] []] h λr h'=>r= .tup []/\∃l':List Spn,l'.Perm l/\l'.Pairwise leS/\h'=h.set id (.row 143 2 (l'.map qq) st):=by
 refine⟨by kernel_rfl,⟨_,_,⟨rfl,_,List.mergeSort_perm l (λa b=>decide (a.from_<=b.from_)),?_,rfl⟩,qH G rfl⟩,?_⟩
 ·have:=List.pairwise_mergeSort (le:=λa b:Spn=>decide (a.from_<=b.from_)) (λa b c h1 h2=>by simp at *; omega) (λa b=>by simp;omega) l
  exact this.imp λh=>by simpa [leS] using h
 ·intro φ hu B w g vs P hB t
  have u:(fill φ h)[id]? =some (.row 143 2 (l.map qq) st):=qy G rfl
  obtain⟨v1,r1,rfl,⟨_,L,z⟩,v2,r2,rfl,⟨us,vs,rfl,o,m⟩,J⟩:=t
  have J:r2=[]:=J
  subst J
  have o:us.toList=[]:=o
  have m:vs.toList=[]:=m
  have o:us= #[]:=by simpa using o
  have m:vs= #[]:=by simpa using m
  subst o;subst m
  have V:v1=g.cur id:=(z st (by simp[ctx,u,Ob.tok])).2 rfl
  obtain⟨q0,q1,cells,R,Q⟩:=P.ok id _ u
  rw[Wd] at Q
  have Y:=We Q
  subst Y
  by_cases E:l=[]
  ·subst E
   have I:∃A k,g.cur id= .slice A 0 k:=by
    rcases R.2 with⟨f,_⟩|⟨v,cap,cur,f,_⟩
    ·exact⟨_,_,f⟩
    ·exact⟨_,_,f⟩
   obtain⟨A,k,I⟩:=I
   rw[V,I]
   refine(q6a A k _ w).mono ?_
   rintro e w' ⟨rfl,rfl⟩
   exact⟨_,_,_,_,rfl,⟨rfl,[],.refl _,.nil,(qX G).symm⟩,.refl,Good.refl P hB, #[],rfl,rfl⟩
  rcases R.2 with⟨_,f⟩|⟨v,cap,cur,f,e4,F,O,X,U,S⟩
  ·exfalso
   simp at f
   exact E f
  ·have f:g.cur id=_:=f
   simp only[zb] at f O S
   have H:l.length*2<=cur.size:=by rw[U];exact Nat.mul_le_mul_right _ O
   have N:∀j,j<l.length*2->cur[j]? =some ((kN l.toArray[j / 2]!)[j % 2]!):=λj s=>by
    rw[<-Wc l j s, <-S,qO,if_pos s,qB]
   have hH:HoldsK kN 2 w v 0 l.toArray:=λj s=>by
    have s:j<l.length*2:=by simpa using s
    refine⟨?_,?_⟩
    ·simp only[World.cell?,F,Nat.zero_add]
     rw[get_flatK _ _ _ _ (by simpa using s)]
     exact N j s
    ·simp[World.frozen?,F]
   have p:=Jca v 0 cap l.toArray w hH (qm.1 F).1 (by simp;omega)
   rw[V,f]
   have M:l.toArray.size=l.length:=by simp
   rw[M] at p
   refine p.mono ?_
   rintro e w' ⟨rfl,d,n,os,hp,W,rfl⟩
   obtain⟨p1,p2,T⟩:=hp
   have D:d.size=l.length:=by rw[p1];simp
   have x:d.toList.Perm l:=by
    have a1:d.extract 0 l.length=d:=by rw[<-D];simp
    have a2:l.toArray.extract 0 l.length=l.toArray:=by simp
    rw[a1,a2] at T
    exact T
   have y:d.toList.Pairwise leS:=by
    rw[List.pairwise_iff_getElem]
    intro i j hi s K
    simp only[qP] at hi s
    have:=W i j (by omega) K (by omega)
    rw[kYa,getElem!_pos d i hi,getElem!_pos d j s] at this
    simp at this
    simpa [leS] using this
   have Z:(flatK kN 2 d).toList=Zw d.toList:=xYa d.toList
   have C:(flatK kN 2 d).size=l.length*2:=by simp[D]
   have q:=Xf (w':=sortWorldK kN 2 w v 0 n d os) (v':=g.cur id) (st':=st) (xs':=d.toList.map qq) (cells:=Zw d.toList) P hB u (by simp) (by rw[f];exact YR w v n _ os)
    ⟨by rw[Ke];simp,.inr ⟨v,cap,_,by simp[f,D],e4,q7a w v n _ os F,by simp[D];exact O,X,by simp[putCells];exact U,by
     have:=q8a (flatK kN 2 d) cur (by rw[C];exact H)
     rw[Z,C] at this
     simpa [D] using this⟩⟩ (by rw[Wd];exact Xd _) (.inl ⟨rfl,rfl⟩) (λb hb=> .inl hb)
   rw[<-jB rfl] at q
   exact⟨_,_,_,_,rfl,⟨rfl,d.toList,x,y,rfl⟩,qH G rfl,q, #[],rfl,rfl⟩
theorem Ysa(x:AV):xv Tryz.prog 152 [.v (.slice none 0 0),x] (.tup []):=λh=>by
 refine⟨by kernel_rfl,⟨_,_,⟨rfl,rfl⟩,.refl⟩,?_⟩
 intro φ j B w g vs f hB a
 obtain⟨v1,k,rfl,c,d,i,rfl,_,b⟩:=a
 have b:i=[]:=b
 subst b
 have c:v1= .slice none 0 0:=c
 subst c
 refine(q6a none 0 d w).mono ?_
 rintro e w' ⟨rfl,rfl⟩
 exact⟨_,_,_,_,rfl,⟨rfl,rfl⟩,.refl,Good.refl f hB, #[],rfl,rfl⟩
end Go.Proofs.YtigdlmpjijhpaaaGreat.Ax
namespace Go.Proofs.YtigdlmpjijhpaaaGreat.Ax
open Go Go.Proofs
set_option maxRecDepth 100000
theorem xZa(l:List Spn)(x:Spn):jW (l++[x])=if(xN x).from_<(xN x).to_ then jW l++[xN x] else jW l:=by
 unfold jW
 rw[zy,je]
 by_cases h:(xN x).from_<(xN x).to_
 ·simp[h]
 ·simp[h]
set_option maxHeartbeats 1000000 in
theorem c65(h:List Ob)(x:AV)(l:List Spn)(hx:SlOf h x 2 (l.map qq))(hl:l.length<1099511627776):
  ACalls Tryz.prog 70 [x] h λr h'=>∃L,h'=h++L/\NoRes L/\New h 2 r ((qg l).map qq) L:=by
 have hex:∃r h',(∃L,h'=h++L/\NoRes L/\New h 2 r ((qg l).map qq) L)/\ResK h h':=
  ⟨.sl 2 _,_,⟨[],rfl,xr,λ_ _=>⟨rfl,λ_=>rfl⟩⟩,q8⟩
 refine zl Tryz.f70 [.tmp 2] 76 rfl rfl rfl rfl rfl rfl (by decide) (hex) λB=>?_
 rw[xk,xk,xk]
 refine ZQ (λT h'=>Pre h h'/\∃l':List Spn,OwnS h h' 143 2 (T 3) (l'.map qq)/\l'.Perm (jW l)/\l'.Pairwise leS) ?_ ?_
 ·simp only[go_sem,hx.rows,zb]
  refine zO (by decide) (λm T h'=>∃k:Nat,k<=l.length/\Pre h h'/\OwnS h h' 143 2 (T 3) ((jW (l.take k)).map qq)/\T 10=x/\T 11=i64 l.length/\T 12=i64 k/\m=l.length - k) l.length
   ⟨0,by omega,Pre.refl,.inl ⟨by simp only[go_sem],rfl⟩,by simp only[go_sem],by simp only[go_sem],by(simp only[go_sem]<;>rfl),rfl⟩ ?_
  rintro m T h' ⟨k,hk,g,G,t10,K,w,rfl⟩
  simp only[go_sem,K,w]
  refine ways (λe=>?_) (λe=>?_)
  ·have f:=dlt e
   have μ:SlOf h' x 2 (l.map qq):=by
    obtain⟨L,rfl,_⟩:=g
    exact hx.app _
   have χ:=μ.at (i:=k) (by simpa using f)
   have d:(l.map qq)[k]? =some (qq l[k]):=by rw[zr,zh f];rfl
   have J:(k:Int)<l.length:=by omega
   have a:=xZa (l.take k) l[k]
   rw[zD f] at a
   obtain⟨y,hy⟩:∃y,y=l[k]:=⟨_,rfl⟩
   rw[<-hy] at d a
   have fin:k+1<=l.length:=by omega
   have hA:List.length (qq y)=2:=rfl
   simp only[go_sem,t10,w,χ,μ.rows,d,J,zb,Int.toNat_natCast,zg,ZW,ZV]
   refine ways (λj=>?_) (λj=>?_)
   ·have j:(xN y).from_<(xN y).to_:=by simpa [xN] using j
    rw[if_pos j] at a
    rcases G with⟨t3,R⟩|⟨id,st,N,t3,I⟩
    ·simp only[go_sem,t3,w]
     refine⟨l.length - (k+1),by omega,k+1,fin,g.app (zp rfl (zp rfl (zF rfl))),.inr ⟨_,_,by have:=g.len;omega,rfl,?_⟩,t10,K,qc (by omega) rfl,rfl⟩
     rw[a,zy,R,zN rfl]
     rfl
    ·have H:((jW (l.take k)).map qq).length+1<=1099511627776:=by
      have:=Ja (l.take k)
      rw[zX] at this
      rw[zb];omega
     have H:(((jW (l.take k)).map qq).length+1)*17<=140737488355328:=by omega
     have t:∀M,(h'++M)[id]? =some (.row 143 2 ((jW (l.take k)).map qq) st):=λM=>zf I
     simp only[go_sem,t3,w,t,H]
     refine⟨l.length - (k+1),by omega,k+1,fin,(g.app (zp rfl (zF rfl))).set N rfl,.inr ⟨id,st+1,N,rfl,?_⟩,t10,K,qc (by omega) rfl,rfl⟩
     rw[a,zy]
     exact zq (t _)
   ·have j:¬ (xN y).from_<(xN y).to_:=by simpa [xN] using j
    rw[if_neg j] at a
    simp only[go_sem,w]
    exact⟨l.length - (k+1),by omega,k+1,fin,g.app (zF rfl),by rw[a];exact G.app _,t10,K,qc (by omega) rfl,rfl⟩
  ·have τ:=xc e
   have Z:k=l.length:=by omega
   subst Z
   rw[zY] at G
   rcases G with⟨t3,R⟩|⟨id,st,N,t3,I⟩
   ·simp only[go_sem,t3]
    refine zi (Ysa _ _) ?_
    rintro _ h4 ⟨rfl,e1⟩
    subst e1
    simp only[go_sem]
    exact⟨g,[],.inl ⟨t3,rfl⟩,by rw[show jW l=[] by simpa using R],.nil⟩
   ·simp only[go_sem,t3]
    refine zi (c93 _ id st (jW l) I (by have:=Ja l;omega)) ?_
    rintro _ h4 ⟨rfl,l',p1,p2,rfl⟩
    simp only[go_sem]
    exact⟨g.set N rfl,l',.inr ⟨id,st,N,t3,zq I⟩,p1,p2⟩
 ·rintro T h' ⟨g,l',G,E,β⟩
  have W:=wva E β
  have hlen:l'.length<=l.length:=by rw[E.length_eq];exact Ja l
  simp only[go_sem,G.rows.rows,zb]
  refine zO (by decide) (λm Q h'=>∃(k:Nat) (out:List Spn),k<=l'.length/\Pre h h'/\OwnS h h' 143 2 (T 3) (l'.map qq)/\OwnS h h' 143 2 (Q 6) (out.map qq)/\(∀i1 s1 i2 s2,T 3= .tl i1 s1->Q 6= .tl i2 s2->i1≠i2)/\out.length<=k/\((k=0/\out=[]/\Q 6= .v (.slice none 0 0))∨∃D c,out=D++[c]/\0<k/\yJ l'=D++kA c (l'.drop k))/\Q 35=T 3/\Q 36=i64 l'.length/\Q 37=i64 k/\m=l'.length - k) l'.length
   ⟨0,[],by omega,g,G,.inl ⟨by simp only[go_sem],rfl⟩,(λ_ _ _ _ _ q=>by simp only[go_sem] at q),zo _,.inl ⟨rfl,rfl,by simp only[go_sem]⟩,by simp only[go_sem],by simp only[go_sem],by(simp only[go_sem]<;>rfl),rfl⟩ ?_
  obtain⟨y,hy⟩:∃y,y=T 3:=⟨_,rfl⟩
  rw[<-hy]
  clear G g
  rintro m Q h' ⟨k,out,hk,g,G,hu,κ,P,hj,u,O,p,rfl⟩
  simp only[go_sem,O,p]
  refine ways (λe=>?_) (λe=>?_)
  ·have f:=dlt e
   have d:(l'.map qq)[k]? =some (qq l'[k]):=by rw[zr,zh f];rfl
   have b:l'.drop k=l'[k]::l'.drop (k+1):=qp f
   rcases G with⟨_,R⟩|⟨id,st,N,n,I⟩
   ·rw[List.map_eq_nil_iff] at R
    rw[R] at f;simp at f
   have t:∀M,(h'++M)[id]? =some (.row 143 2 (l'.map qq) st):=λM=>zf I
   have J:(k:Int)<l'.length:=by omega
   obtain⟨z,hz⟩:∃z,z=l'[k]:=⟨_,rfl⟩
   rw[<-hz] at d b
   rcases hj with⟨α,rfl,t6⟩|⟨D,c,rfl,α,hm⟩
   ·simp only[go_sem,u,n,p,t6,I,t,d,J,zb,Int.toNat_natCast,zg]
    refine zV rfl [] 0 [(0,0,[]),(1,0,[]),(2,0,[]),(3,0,[]),(5,0,[]),(6,0,[]),(7,0,[]),(4,0,[]),(8,0,[]),(9,0,[]),(10,0,[]),(11,0,[]),(12,0,[])] rfl (by decide) (by decide) ?_
    have υ:decide ((0:Int)>0)=false:=rfl
    simp only[go_sem,u,n,p,t6,t,υ]
    have φ:=g.len
    have hid:id<h'.length:=(zd.1 I).1
    refine⟨l'.length - (k+1),by omega,k+1,[z],by omega,g.app (zp rfl (zp rfl (zF rfl))),.inr ⟨id,st,N,rfl,t _⟩,.inr ⟨_,_,by omega,rfl,by rw[zN rfl];rfl⟩,(λi1 s1 i2 s2 U V=>?_),by simp,.inr ⟨[],z,rfl,by omega,?_⟩,O,qc (by omega) rfl,rfl⟩
    ·injection U with U;injection V with V;omega
    ·rw[α,List.drop_zero] at b
     rw[b,α]
     rfl
   ·have η:wr (((D.length+1:Nat):Int) - 1)=(D.length:Int):=by
     rw[qb (by simp at P;unfold Fit;omega)];omega
    have σ:decide (((D.length+1:Nat):Int)>0)=true:=by simp
    have A:((D++[c]).map qq).length=D.length+1:=by simp
    have X:((D++[c]).map qq)[D.length]? =some (qq c):=by simp
    have θ:(D.length:Int)<((D.length+1:Nat):Int):=by omega
    obtain⟨out,F⟩:∃out,out=(D++[c]).map qq:=⟨_,rfl⟩
    rcases hu with⟨_,R⟩|⟨S,Y,u1,s,u3⟩
    ·simp at R
    have ν:=κ _ _ _ _ n s
    rw[<-F] at u3 A X
    have o:∀M,(h'++M)[S]? =some (.row 143 2 out Y):=λM=>zf u3
    simp only[go_sem,u,n,p,s,I,u3,t,o,d,J,A,zb,Int.toNat_natCast,zg]
    refine zV rfl [] 0 [(0,0,[]),(1,0,[]),(2,0,[]),(3,0,[]),(5,0,[]),(6,0,[]),(7,0,[]),(4,0,[]),(8,0,[]),(9,0,[]),(10,0,[]),(11,0,[]),(12,0,[])] rfl (by decide) (by decide) ?_
    simp only[go_sem,s,t,o,σ,η,X,A,θ,Int.toNat_natCast,zg]
    refine ways (λj=>?_) (λj=>?_)
    ·have j:z.from_<=c.to_:=by simpa using j
     simp only[go_sem]
     refine zV rfl [] 0 [(0,0,[]),(1,0,[]),(2,0,[]),(3,0,[]),(4,0,[]),(5,0,[]),(9,0,[]),(6,0,[]),(7,0,[]),(8,0,[]),(10,0,[]),(11,0,[]),(12,0,[]),(13,0,[]),(14,0,[])] rfl (by decide) (by decide) ?_
     simp only[go_sem,s,t,o,η,X,A,θ,Int.toNat_natCast,zg,ZW,p]
     obtain⟨c2,ε⟩:∃c2:Spn,c2=⟨c.from_,max c.to_ z.to_⟩:=⟨_,rfl⟩
     have C:out.set D.length [i64 c.from_,i64 (max c.to_ z.to_)]=(D++[c2]).map qq:=by
      rw[F,ε];simp
     rw[C]
     refine⟨l'.length - (k+1),by omega,k+1,D++[c2],by omega,(g.app (zF rfl)).set u1 rfl,.inr ⟨id,st,N,rfl,?_⟩,.inr ⟨S,Y,u1,rfl,zq (o _)⟩,(λi1 s1 i2 s2 U V=>κ i1 s1 i2 s2 (n.trans U) (s.trans V)),by simp at P ⊢;omega,.inr ⟨D,_,rfl,by omega,?_⟩,by rw[u,n],O,qc (by omega) rfl,rfl⟩
     ·rw[zc (Ne.symm ν)];exact t _
     ·rw[hm,b,kA,if_pos j,ε]
    ·have j:¬ z.from_<=c.to_:=by simpa using j
     have H:(out.length+1)*17<=140737488355328:=by rw[A];simp at P;omega
     simp only[go_sem,s,t,o,H,p]
     have C:out++[[i64 z.from_,i64 z.to_]]=((D++[c])++[z]).map qq:=by
      rw[F];simp
     rw[C]
     refine⟨l'.length - (k+1),by omega,k+1,(D++[c])++[z],by omega,(g.app (zp rfl (zF rfl))).set u1 rfl,.inr ⟨id,st,N,rfl,?_⟩,.inr ⟨S,Y+1,u1,rfl,zq (o _)⟩,(λi1 s1 i2 s2 U V=>?_),by simp at P ⊢;omega,.inr ⟨D++[c],z,rfl,by omega,?_⟩,by rw[u,n],O,qc (by omega) rfl,rfl⟩
     ·rw[zc (Ne.symm ν)];exact t _
     ·injection U with U;injection V with V;omega
     ·rw[hm,b,kA,if_neg j,zn]
      rfl
  ·have τ:=xc e
   have Z:k=l'.length:=by omega
   have ι:out=yJ l':=by
    rcases hj with⟨h0,h1,_⟩|⟨D,c,h0,_,h1⟩
    ·have:l'=[]:=List.length_eq_zero_iff.1 (by omega)
     rw[h1,this];rfl
    ·rw[h1,h0,Z,List.drop_length];simp[kA]
   subst ι
   simp only[go_sem]
   obtain⟨L,rfl,hN⟩:=g
   exact⟨Q 6,by simp only[go_sem],.inl ⟨L,rfl,hN,by rw[<-W];exact hu.new (zo _)⟩⟩
open Go.RowKit Go.Lib
theorem kZa(A:Option Addr)(n k:Nat)(a:n<=k)(w:World):Calls Tryz.prog 154 #[.slice A n k] w λe w'=>(e= .returned (.slice A n n)/\w'=w):=by
 have c:(n:Int)<=(k:Int):=by omega
 have b:(0:Int)<=(n:Int):=by omega
 go_enter Tryz.func154,Tryz.ntmps154
 go_wp2
 go_ret
 exact⟨rfl,rfl⟩
theorem c96(h:List Ob)(id st:Nat)(rows:List (List AV))(f:h[id]? =some (.row 143 2 rows st)):ACalls Tryz.prog 154 [.tl id st] h λr h'=>r= .sl 2 rows/\h'=h.set id .gone:=by
 refine⟨by kernel_rfl,⟨_,_,⟨rfl,rfl⟩,qH f rfl⟩,?_⟩
 intro φ m B w g vs l hB a
 obtain⟨v1,i,rfl,j,c⟩:=a
 have c:i=[]:=c
 subst c
 obtain⟨k1,k2⟩:=Qu l hB (qy f rfl)
 rw[<-jB rfl] at k1 k2
 obtain⟨A,k,rfl,d,b⟩:=k2 _ j
 refine(kZa A rows.length k d w).mono ?_
 rintro e w' ⟨rfl,rfl⟩
 exact⟨_,_,_,_,rfl,⟨rfl,rfl⟩,qH f rfl,k1,A,rows.length,rfl,zo _,b⟩
theorem Yta:xv Tryz.prog 154 [.v (.slice none 0 0)] (.v (.slice none 0 0)):=λh=>by
 refine⟨by kernel_rfl,⟨_,_,⟨rfl,rfl⟩,.refl⟩,?_⟩
 intro φ i B w g vs f hB a
 obtain⟨v1,d,rfl,b,c⟩:=a
 have c:d=[]:=c
 subst c
 have b:v1= .slice none 0 0:=b
 subst b
 refine(kZa none 0 0 (zo _) w).mono ?_
 rintro e w' ⟨rfl,rfl⟩
 exact⟨_,_,_,_,rfl,⟨rfl,rfl⟩,.refl,Good.refl f hB,rfl⟩
