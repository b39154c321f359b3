import Derived.Test.YtigdlmpjijhpaaaGreatBA
import Derived.Test.YtigdlmpjijhpaaaGreatB21
import Derived.Test.YtigdlmpjijhpaaaGreatB24
import Derived.Test.YtigdlmpjijhpaaaGreatB17
set_option linter.all false
namespace Go.Proofs.YtigdlmpjijhpaaaGreat.Ax
open Go Go.Proofs
abbrev Mat:=List (List Int)
def kD(D:Mat)(a b:Nat):Int:=(D.getD a []).getD b 0
def JN(D:Mat)(a b:Nat)(n:Int):Mat:=D.set a ((D.getD a []).set b n)
def wj(D:Mat)(a b:Nat)(n:Int):Mat:=if kD D a b= -1∨n<kD D a b then JN D a b n else D
def Qca(n i:Nat):List Int:=(List.replicate n (-1)).set i 0
def JO(n:Nat):Mat:=(List.range n).map (Qca n)
def wka(D:Mat)(w:Way):Mat:=wj (wj D w.1.toNat w.2.1.toNat w.2.2) w.2.1.toNat w.1.toNat w.2.2
def Y9(b y:Nat)(a:Nat)(D:Mat):Mat:=if kD D y b≠ -1 then wj D a b (wr (kD D a y+kD D y b)) else D
def zaa(n y:Nat)(D:Mat)(a:Nat):Mat:=if kD D a y= -1 then D else(List.range n).foldl (λD b=>Y9 b y a D) D
def kha(n:Nat)(D:Mat)(y:Nat):Mat:=(List.range n).foldl (zaa n y) D
def ZG(s:Setup):Mat:=(List.range s.places.toNat).foldl (kha s.places.toNat) (s.ways.foldl wka (JO s.places.toNat))
def Sq(n:Nat)(D:Mat):Prop:=D.length=n/\∀r∈D,r.length=n
theorem VH{n:Nat}{D:Mat}(h:Sq n D){a:Nat}(c:a<n):∃r,D[a]? =some r/\D.getD a []=r/\r.length=n:=by
 have b:a<D.length:=by rw[h.1];exact c
 exact⟨D[a],zi b,by rw[zT,zi b];rfl,h.2 _ (zD b)⟩
theorem YMa{n:Nat}{D:Mat}(h:Sq n D)(a b:Nat)(v:Int):Sq n (JN D a b v):=by
 refine⟨by simp[JN,h.1],λr c=>?_⟩
 rcases List.mem_or_eq_of_mem_set c with c|rfl
 ·exact h.2 r c
 ·rw[zz]
  by_cases i:a<n
  ·obtain⟨r,_,e,g⟩:=VH h i
   rw[e];exact g
  ·have f:D.set a ((D.getD a []).set b v)=D:=List.set_eq_of_length_le (by rw[h.1];omega)
   have d:(D.getD a []).set b v∈D:=by
    have:(D.getD a []).set b v∈D.set a ((D.getD a []).set b v):=c
    rwa[f] at this
   have:=h.2 _ d
   rwa[zz] at this
theorem WW{n:Nat}{D:Mat}(h:Sq n D)(a b:Nat)(v:Int):Sq n (wj D a b v):=by
 unfold wj
 split
 ·exact YMa h a b v
 ·exact h
theorem yya(n:Nat):Sq n (JO n):=⟨by simp[JO],λr a=>by
 obtain⟨i,_,rfl⟩:=zw.1 a
 simp[Qca]⟩
set_option maxRecDepth 100000
attribute [go_sem] Q6a Zla ty3
def yV(v:Int)(m k:Nat):List (List AV):=List.replicate k [i64 v]++List.replicate (m - k) [i64 0]
theorem wra{v:Int}{m k:Nat}(h:k<=m):(yV v m k).length=m:=by
 simp[yV];omega
theorem wsa{v:Int}{m:Nat}:yV v m m=List.replicate m [i64 v]:=by simp[yV]
theorem wta{v:Int}{m k j:Nat}(h:k+j<=m):kI (yV v m k) k (List.replicate j [i64 v])=yV v m (k+j):=by
 unfold kI yV
 rw[qO (by simp),List.take_of_length_le (by simp),qZ,List.drop_append,List.drop_eq_nil_of_le (by simp),qZ,List.drop_replicate,List.nil_append,List.replicate_append_replicate,show m - k - (k+j - k)=m - (k+j) by omega]
theorem xub(h:List Ob)(x:AV)(v:Int)(m:Nat)(t:SlOf h x 1 [[i64 v]])(S:1<=m)(F:m<=65536):
  ACalls Tryz.prog 289 [x,i64 m] h λr h'=>∃L id st,h'=h++L/\NoRes L/\h.length<=id/\r= .tl id st/\h'[id]? =some (.row 3 1 (List.replicate m [i64 v]) st):=by
 have hex:∃r h',(∃L id st,h'=h++L/\NoRes L/\h.length<=id/\r=AV.tl id st/\h'[id]? =some (.row 3 1 (List.replicate m [i64 v]) st))/\ResK h h':=
  ⟨_,_,⟨[.row 3 1 (List.replicate m [i64 v]) 0],h.length,0,rfl,zG rfl,zn _,rfl,by rw[zM rfl];rfl⟩,qS⟩
 have E:decide ((m:Int)<0)=false:=by simp
 have K:IntKind.wrap .u64 (m:Int)=(m:Int):=by
  simp[IntKind.wrap,IntKind.bits,IntKind.signed];omega
 have y:IntKind.wrap .i64 (m:Int)=(m:Int):=qp (by unfold Fit;omega)
 have R:decide ((m:Int)>9223372036854775807)=false:=by simp;omega
 have P:(m:Int)*9<=140737488355328:=by omega
 have i:∀M,z6 (h++M) x=some [[i64 v]]:=λM=>(t.app M).rows
 have A:List.take m [[i64 v]]=[[i64 v]]:=List.take_of_length_le (by simp;omega)
 have J:([[i64 v]].all λr=>r.length==1 && r.all AV.one)=true:=rfl
 have z:IntKind.wrap .u64 (1:Int)=((1:Nat):Int):=by decide
 have w:((1*m / 18446744073709551616:Nat):Int)=0:=by
  rw[Nat.one_mul,Nat.div_eq_of_lt (by omega)];rfl
 have Q:((1*m % 18446744073709551616:Nat):Int)=(m:Int):=by
  rw[Nat.one_mul,Nat.mod_eq_of_lt (by omega)]
 refine zj Tryz.f289 [.tmp 4] 48 rfl rfl rfl rfl rfl rfl (by decide) (hex) λB=>?_
 simp only[go_sem,t.rows,E,K,z]
 refine zg (xtb 1 m (by omega) (by omega) _) ?_
 rintro _ d ⟨rfl,H⟩
 subst H
 rw[w,Q]
 have O:decide ((0:Int)>0)=false:=rfl
 simp only[go_sem,O,R,qD,y,P,i,t.rows,Int.toNat_natCast,zh,qZ,A,J,List.length_cons,List.length_nil,List.drop_replicate]
 refine zP (by decide) (λn T h'=>∃k:Nat,1<=k/\k<=m/\h'=d++[.row 3 1 (yV v m k) 0]/\T 7= .tl d.length 0/\T 8=i64 k/\n=m - k) (m - 1)
  ⟨1,by omega,by omega,rfl,by simp only[go_sem],by(simp only[go_sem]<;>rfl),rfl⟩ ?_
 rintro n T h' ⟨k,G,u,rfl,q,t8,rfl⟩
 have c:=wra (v:=v) u
 have U:∀M,(d++(.row 3 1 (yV v m k) 0::M))[d.length]? =some (.row 3 1 (yV v m k) 0):=λM=>by rw[zM rfl];rfl
 simp only[go_sem,q,t8,c]
 refine ways (λe=>?_) (λe=>?_)
 ·have D:k<m:=dlt e
  simp only[go_sem]
  refine zV rfl [] 0 [(0,0,[]),(1,0,[]),(2,0,[]),(4,0,[]),(5,0,[]),(3,0,[]),(6,0,[]),(7,0,[]),(8,0,[]),(9,0,[])] rfl (by decide) (by decide) ?_
  have o:(k:Int)<=(m:Int):=by omega
  have l:(m:Int)<=(m:Int):=by omega
  have f:k+(m - k)<=m:=by omega
  have p:0+k<=m:=by omega
  have b:List.take k (yV v m k)=List.replicate k [i64 v]:=by
   unfold yV
   rw[qO (by simp),List.take_of_length_le (by simp)]
  have g:∀j,((List.replicate j [i64 v]).all λr=>r.length==1 && r.all AV.one)=true:=λj=>by
   rw[zR]
   intro r C
   rw[List.eq_of_mem_replicate C]
   rfl
  simp only[go_sem,q,t8,c,o,l,or_true,Int.toNat_natCast,zh,f,p,Nat.sub_zero,u,b,List.take_replicate,qZ,g]
  obtain⟨j,N⟩:∃j,j=min (m - k) k:=⟨_,rfl⟩
  have a:=wta (v:=v) (show k+j<=m by omega)
  unfold kI at a
  rw[qZ,b,zp] at a
  rw[<-N,a]
  have wk:IntKind.wrap .i64 ((k:Int)+(j:Int))=((k+j:Nat):Int):=Z8 (by omega)
  exact⟨m - (k+j),by omega,k+j,by omega,by omega,rfl,by rw[wk],rfl⟩
 ·have I:m<=k:=xb e
  have s:k=m:=by omega
  subst s
  simp only[go_sem,q]
  exact⟨.tl d.length 0,by simp only[go_sem],.inl ⟨_,d.length,0,rfl,zG rfl,zn _,rfl,by rw[zM rfl,wsa];rfl⟩⟩
