import Derived.Test.YtigdlmpjijhpaaaGreatKA
import Derived.Test.YtigdlmpjijhpaaaGreatK21
import Derived.Test.YtigdlmpjijhpaaaGreatK24
import Derived.Test.YtigdlmpjijhpaaaGreatK17
set_option linter.all false
namespace Go.Proofs.YtigdlmpjijhpaaaGreat.Ax
open Go Go.Proofs
abbrev Mat:=List (List Int)
def kI(D:Mat)(a b:Nat):Int:=(D.getD a []).getD b 0
def Xa(D:Mat)(a b:Nat)(n:Int):Mat:=D.set a ((D.getD a []).set b n)
def wu(D:Mat)(a b:Nat)(n:Int):Mat:=if kI D a b= -1∨n<kI D a b then Xa D a b n else D
def Qma(n i:Nat):List Int:=(List.replicate n (-1)).set i 0
def Xb(n:Nat):Mat:=(List.range n).map (Qma n)
def woa(D:Mat)(w:Way):Mat:=wu (wu D w.1.toNat w.2.1.toNat w.2.2) w.2.1.toNat w.1.toNat w.2.2
def zna(b y:Nat)(a:Nat)(D:Mat):Mat:=if kI D y b≠ -1 then wu D a b (wr (kI D a y+kI D y b)) else D
def zoa(n y:Nat)(D:Mat)(a:Nat):Mat:=if kI D a y= -1 then D else(List.range n).foldl (λD b=>zna b y a D) D
def kra(n:Nat)(D:Mat)(y:Nat):Mat:=(List.range n).foldl (zoa n y) D
def ZJ(s:Setup):Mat:=(List.range s.places.toNat).foldl (kra s.places.toNat) (s.ways.foldl woa (Xb s.places.toNat))
def Sq(n:Nat)(D:Mat):Prop:=D.length=n/\∀r∈D,r.length=n
theorem VV{n:Nat}{D:Mat}(h:Sq n D){a:Nat}(c:a<n):∃r,D[a]? =some r/\D.getD a []=r/\r.length=n:=by
 have b:a<D.length:=by rw[h.1];exact c
 exact⟨D[a],zi b,by rw[zZ,zi b];rfl,h.2 _ (zx b)⟩
theorem zeb{n:Nat}{D:Mat}(h:Sq n D)(a b:Nat)(v:Int):Sq n (Xa D a b v):=by
 refine⟨by simp[Xa,h.1],λr c=>?_⟩
 rcases List.mem_or_eq_of_mem_set c with c|rfl
 ·exact h.2 r c
 ·rw[zJ]
  by_cases g:a<n
  ·obtain⟨r,_,e,f⟩:=VV h g
   rw[e];exact f
  ·have i:D.set a ((D.getD a []).set b v)=D:=List.set_eq_of_length_le (by rw[h.1];omega)
   have d:(D.getD a []).set b v∈D:=by
    have:(D.getD a []).set b v∈D.set a ((D.getD a []).set b v):=c
    rwa[i] at this
   have:=h.2 _ d
   rwa[zJ] at this
theorem W6{n:Nat}{D:Mat}(h:Sq n D)(a b:Nat)(v:Int):Sq n (wu D a b v):=by
 unfold wu
 split
 ·exact zeb h a b v
 ·exact h
theorem yGa(n:Nat):Sq n (Xb n):=⟨by simp[Xb],λr a=>by
 obtain⟨i,_,rfl⟩:=zt.1 a
 simp[Qma]⟩
set_option maxRecDepth 100000
attribute [go_sem] Jsa Zwa ty3
def Zc(v:Int)(m k:Nat):List (List AV):=List.replicate k [i64 v]++List.replicate (m - k) [i64 0]
theorem wva{v:Int}{m k:Nat}(h:k<=m):(Zc v m k).length=m:=by
 simp[Zc];omega
theorem wwa{v:Int}{m:Nat}:Zc v m m=List.replicate m [i64 v]:=by simp[Zc]
theorem wxa{v:Int}{m k j:Nat}(h:k+j<=m):kN (Zc v m k) k (List.replicate j [i64 v])=Zc v m (k+j):=by
 unfold kN Zc
 rw[qE (by simp),List.take_of_length_le (by simp),ja,List.drop_append,List.drop_eq_nil_of_le (by simp),ja,List.drop_replicate,List.nil_append,List.replicate_append_replicate,show m - k - (k+j - k)=m - (k+j) by omega]
theorem xYb(h:List Ob)(x:AV)(v:Int)(m:Nat)(o:SlOf h x 1 [[i64 v]])(S:1<=m)(I:m<=65536):
  ACalls Tryz.prog 289 [x,i64 m] h λr h'=>∃L id st,h'=h++L/\NoRes L/\h.length<=id/\r= .tl id st/\h'[id]? =some (.row 3 1 (List.replicate m [i64 v]) st):=by
 have hex:∃r h',(∃L id st,h'=h++L/\NoRes L/\h.length<=id/\r=AV.tl id st/\h'[id]? =some (.row 3 1 (List.replicate m [i64 v]) st))/\ResK h h':=
  ⟨_,_,⟨[.row 3 1 (List.replicate m [i64 v]) 0],h.length,0,rfl,zD rfl,zp _,rfl,by rw[zK rfl];rfl⟩,resK_app⟩
 have H:decide ((m:Int)<0)=false:=by simp
 have O:IntKind.wrap .u64 (m:Int)=(m:Int):=by
  simp[IntKind.wrap,IntKind.bits,IntKind.signed];omega
 have K:IntKind.wrap .i64 (m:Int)=(m:Int):=qq (by unfold Fit;omega)
 have R:decide ((m:Int)>9223372036854775807)=false:=by simp;omega
 have P:(m:Int)*9<=140737488355328:=by omega
 have t:∀M,qc (h++M) x=some [[i64 v]]:=λM=>(o.app M).rows
 have J:List.take m [[i64 v]]=[[i64 v]]:=List.take_of_length_le (by simp;omega)
 have z:([[i64 v]].all λr=>r.length==1 && r.all AV.one)=true:=rfl
 have A:IntKind.wrap .u64 (1:Int)=((1:Nat):Int):=by decide
 have y:((1*m / 18446744073709551616:Nat):Int)=0:=by
  rw[Nat.one_mul,Nat.div_eq_of_lt (by omega)];rfl
 have Q:((1*m % 18446744073709551616:Nat):Int)=(m:Int):=by
  rw[Nat.one_mul,Nat.mod_eq_of_lt (by omega)]
 refine zj Tryz.f289 [.tmp 4] 48 rfl rfl rfl rfl rfl rfl (by decide) (hex) λB=>?_
 simp only[go_sem,o.rows,H,O,A]
 refine zh (xXb 1 m (by omega) (by omega) _) ?_
 rintro _ d ⟨rfl,C⟩
 subst C
 rw[y,Q]
 have E:decide ((0:Int)>0)=false:=rfl
 simp only[go_sem,E,R,qv,K,P,t,o.rows,Int.toNat_natCast,zf,ja,J,z,List.length_cons,List.length_nil,List.drop_replicate]
 refine zO (by decide) (λn T h'=>∃k:Nat,1<=k/\k<=m/\h'=d++[.row 3 1 (Zc v m k) 0]/\T 7= .tl d.length 0/\T 8=i64 k/\n=m - k) (m - 1)
  ⟨1,by omega,by omega,rfl,by simp only[go_sem],by(simp only[go_sem]<;>rfl),rfl⟩ ?_
 rintro n T h' ⟨k,D,u,rfl,q,t8,rfl⟩
 have c:=wva (v:=v) u
 have U:∀M,(d++(.row 3 1 (Zc v m k) 0::M))[d.length]? =some (.row 3 1 (Zc v m k) 0):=λM=>by rw[zK rfl];rfl
 simp only[go_sem,q,t8,c]
 refine ways (λe=>?_) (λe=>?_)
 ·have w:k<m:=dlt e
  simp only[go_sem]
  refine zQ rfl [] 0 [(0,0,[]),(1,0,[]),(2,0,[]),(4,0,[]),(5,0,[]),(3,0,[]),(6,0,[]),(7,0,[]),(8,0,[]),(9,0,[])] rfl (by decide) (by decide) ?_
  have i:(k:Int)<=(m:Int):=by omega
  have l:(m:Int)<=(m:Int):=by omega
  have f:k+(m - k)<=m:=by omega
  have g:0+k<=m:=by omega
  have b:List.take k (Zc v m k)=List.replicate k [i64 v]:=by
   unfold Zc
   rw[qE (by simp),List.take_of_length_le (by simp)]
  have p:∀j,((List.replicate j [i64 v]).all λr=>r.length==1 && r.all AV.one)=true:=λj=>by
   rw[qa]
   intro r F
   rw[List.eq_of_mem_replicate F]
   rfl
  simp only[go_sem,q,t8,c,i,l,or_true,Int.toNat_natCast,zf,f,g,Nat.sub_zero,u,b,List.take_replicate,ja,p]
  obtain⟨j,N⟩:∃j,j=min (m - k) k:=⟨_,rfl⟩
  have a:=wxa (v:=v) (show k+j<=m by omega)
  unfold kN at a
  rw[ja,b,zr] at a
  rw[<-N,a]
  have wk:IntKind.wrap .i64 ((k:Int)+(j:Int))=((k+j:Nat):Int):=Qk (by omega)
  exact⟨m - (k+j),by omega,k+j,by omega,by omega,rfl,by rw[wk],rfl⟩
 ·have G:m<=k:=xr e
  have s:k=m:=by omega
  subst s
  simp only[go_sem,q]
  exact⟨.tl d.length 0,by simp only[go_sem],.inl ⟨_,d.length,0,rfl,zD rfl,zp _,rfl,by rw[zK rfl,wwa];rfl⟩⟩
