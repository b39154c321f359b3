import Derived.Test.YtigdlmpjijhpaaaGreatKA
import Derived.Test.YtigdlmpjijhpaaaGreatK21
import Derived.Test.YtigdlmpjijhpaaaGreatK24
import Derived.Test.YtigdlmpjijhpaaaGreatK17
set_option linter.all false
namespace Go.Proofs.YtigdlmpjijhpaaaGreat.Ax
open Go Go.Proofs
abbrev Mat:=List (List Int)
def kN(D:Mat)(a b:Nat):Int:=(D.getD a []).getD b 0
def Xb(D:Mat)(a b:Nat)(n:Int):Mat:=D.set a ((D.getD a []).set b n)
def ww(D:Mat)(a b:Nat)(n:Int):Mat:=if kN D a b= -1∨n<kN D a b then Xb D a b n else D
def Qta(n i:Nat):List Int:=(List.replicate n (-1)).set i 0
def Xc(n:Nat):Mat:=(List.range n).map (Qta n)
def wua(D:Mat)(w:Way):Mat:=ww (ww D w.1.toNat w.2.1.toNat w.2.2) w.2.1.toNat w.1.toNat w.2.2
def zqa(b y:Nat)(a:Nat)(D:Mat):Mat:=if kN D y b≠ -1 then ww D a b (wr (kN D a y+kN D y b)) else D
def zra(n y:Nat)(D:Mat)(a:Nat):Mat:=if kN D a y= -1 then D else(List.range n).foldl (λD b=>zqa b y a D) D
def kua(n:Nat)(D:Mat)(y:Nat):Mat:=(List.range n).foldl (zra n y) D
def ZM(s:Setup):Mat:=(List.range s.places.toNat).foldl (kua s.places.toNat) (s.ways.foldl wua (Xc s.places.toNat))
def Sq(n:Nat)(D:Mat):Prop:=D.length=n/\∀r∈D,r.length=n
theorem VX{n:Nat}{D:Mat}(h:Sq n D){a:Nat}(c:a<n):∃r,D[a]? =some r/\D.getD a []=r/\r.length=n:=by
 have b:a<D.length:=by rw[h.1];exact c
 exact⟨D[a],zj b,by rw[zZ,zj b];rfl,h.2 _ (zy b)⟩
theorem zrb{n:Nat}{D:Mat}(h:Sq n D)(a b:Nat)(v:Int):Sq n (Xb D a b v):=by
 refine⟨by simp[Xb,h.1],λr c=>?_⟩
 rcases List.mem_or_eq_of_mem_set c with c|rfl
 ·exact h.2 r c
 ·rw[zN]
  by_cases f:a<n
  ·obtain⟨r,_,i,g⟩:=VX h f
   rw[i];exact g
  ·have e:D.set a ((D.getD a []).set b v)=D:=List.set_eq_of_length_le (by rw[h.1];omega)
   have d:(D.getD a []).set b v∈D:=by
    have:(D.getD a []).set b v∈D.set a ((D.getD a []).set b v):=c
    rwa[e] at this
   have:=h.2 _ d
   rwa[zN] at this
theorem W9{n:Nat}{D:Mat}(h:Sq n D)(a b:Nat)(v:Int):Sq n (ww D a b v):=by
 unfold ww
 split
 ·exact zrb h a b v
 ·exact h
theorem yLa(n:Nat):Sq n (Xc n):=⟨by simp[Xc],λr a=>by
 obtain⟨i,_,rfl⟩:=zr.1 a
 simp[Qta]⟩
set_option maxRecDepth 100000
attribute [go_sem] JCa ZDa ty3
def Ze(v:Int)(m k:Nat):List (List AV):=List.replicate k [i64 v]++List.replicate (m - k) [i64 0]
theorem wBa{v:Int}{m k:Nat}(h:k<=m):(Ze v m k).length=m:=by
 simp[Ze];omega
theorem wCa{v:Int}{m:Nat}:Ze v m m=List.replicate m [i64 v]:=by simp[Ze]
theorem wDa{v:Int}{m k j:Nat}(h:k+j<=m):kQ (Ze v m k) k (List.replicate j [i64 v])=Ze v m (k+j):=by
 unfold kQ Ze
 rw[qE (by simp),List.take_of_length_le (by simp),jb,List.drop_append,List.drop_eq_nil_of_le (by simp),jb,List.drop_replicate,List.nil_append,List.replicate_append_replicate,show m - k - (k+j - k)=m - (k+j) by omega]
theorem kib(h:List Ob)(x:AV)(v:Int)(m:Nat)(g:SlOf h x 1 [[i64 v]])(S:1<=m)(G:m<=65536):
  ACalls Tryz.prog 289 [x,i64 m] h λr h'=>∃L id st,h'=h++L/\NoRes L/\h.length<=id/\r= .tl id st/\h'[id]? =some (.row 3 1 (List.replicate m [i64 v]) st):=by
 have hex:∃r h',(∃L id st,h'=h++L/\NoRes L/\h.length<=id/\r=AV.tl id st/\h'[id]? =some (.row 3 1 (List.replicate m [i64 v]) st))/\ResK h h':=
  ⟨_,_,⟨[.row 3 1 (List.replicate m [i64 v]) 0],h.length,0,rfl,zD rfl,zo _,rfl,by rw[zM rfl];rfl⟩,resK_app⟩
 have E:decide ((m:Int)<0)=false:=by simp
 have N:IntKind.wrap .u64 (m:Int)=(m:Int):=by
  simp[IntKind.wrap,IntKind.bits,IntKind.signed];omega
 have I:IntKind.wrap .i64 (m:Int)=(m:Int):=qp (by unfold Fit;omega)
 have K:decide ((m:Int)>9223372036854775807)=false:=by simp;omega
 have w:(m:Int)*9<=140737488355328:=by omega
 have s:∀M,qa (h++M) x=some [[i64 v]]:=λM=>(g.app M).rows
 have J:List.take m [[i64 v]]=[[i64 v]]:=List.take_of_length_le (by simp;omega)
 have C:([[i64 v]].all λr=>r.length==1 && r.all AV.one)=true:=rfl
 have D:IntKind.wrap .u64 (1:Int)=((1:Nat):Int):=by decide
 have O:((1*m / 18446744073709551616:Nat):Int)=0:=by
  rw[Nat.one_mul,Nat.div_eq_of_lt (by omega)];rfl
 have H:((1*m % 18446744073709551616:Nat):Int)=(m:Int):=by
  rw[Nat.one_mul,Nat.mod_eq_of_lt (by omega)]
 refine zi Tryz.f289 [.tmp 4] 48 rfl rfl rfl rfl rfl rfl (by decide) (hex) λB=>?_
 simp only[go_sem,g.rows,E,N,D]
 refine zg (khb 1 m (by omega) (by omega) _) ?_
 rintro _ d ⟨rfl,F⟩
 subst F
 rw[O,H]
 have R:decide ((0:Int)>0)=false:=rfl
 simp only[go_sem,R,K,qt,I,w,s,g.rows,Int.toNat_natCast,zh,jb,J,C,List.length_cons,List.length_nil,List.drop_replicate]
 refine zI (by decide) (λn T h'=>∃k:Nat,1<=k/\k<=m/\h'=d++[.row 3 1 (Ze v m k) 0]/\T 7= .tl d.length 0/\T 8=i64 k/\n=m - k) (m - 1)
  ⟨1,by omega,by omega,rfl,by simp only[go_sem],by(simp only[go_sem]<;>rfl),rfl⟩ ?_
 rintro n T h' ⟨k,Q,u,rfl,l,t8,rfl⟩
 have c:=wBa (v:=v) u
 have U:∀M,(d++(.row 3 1 (Ze v m k) 0::M))[d.length]? =some (.row 3 1 (Ze v m k) 0):=λM=>by rw[zM rfl];rfl
 simp only[go_sem,l,t8,c]
 refine ways (λe=>?_) (λe=>?_)
 ·have P:k<m:=dlt e
  simp only[go_sem]
  refine zL rfl [] 0 [(0,0,[]),(1,0,[]),(2,0,[]),(4,0,[]),(5,0,[]),(3,0,[]),(6,0,[]),(7,0,[]),(8,0,[]),(9,0,[])] rfl (by decide) (by decide) ?_
  have p:(k:Int)<=(m:Int):=by omega
  have q:(m:Int)<=(m:Int):=by omega
  have f:k+(m - k)<=m:=by omega
  have t:0+k<=m:=by omega
  have a:List.take k (Ze v m k)=List.replicate k [i64 v]:=by
   unfold Ze
   rw[qE (by simp),List.take_of_length_le (by simp)]
  have o:∀j,((List.replicate j [i64 v]).all λr=>r.length==1 && r.all AV.one)=true:=λj=>by
   rw[qb]
   intro r z
   rw[List.eq_of_mem_replicate z]
   rfl
  simp only[go_sem,l,t8,c,p,q,or_true,Int.toNat_natCast,zh,f,t,Nat.sub_zero,u,a,List.take_replicate,jb,o]
  obtain⟨j,A⟩:∃j,j=min (m - k) k:=⟨_,rfl⟩
  have b:=wDa (v:=v) (show k+j<=m by omega)
  unfold kQ at b
  rw[jb,a,zt] at b
  rw[<-A,b]
  have wk:IntKind.wrap .i64 ((k:Int)+(j:Int))=((k+j:Nat):Int):=Qm (by omega)
  exact⟨m - (k+j),by omega,k+j,by omega,by omega,rfl,by rw[wk],rfl⟩
 ·have y:m<=k:=j9 e
  have i:k=m:=by omega
  subst i
  simp only[go_sem,l]
  exact⟨.tl d.length 0,by simp only[go_sem],.inl ⟨_,d.length,0,rfl,zD rfl,zo _,rfl,by rw[zM rfl,wCa];rfl⟩⟩
