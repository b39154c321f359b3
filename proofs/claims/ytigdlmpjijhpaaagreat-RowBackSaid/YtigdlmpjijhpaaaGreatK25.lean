import Derived.Test.YtigdlmpjijhpaaaGreatKA
import Derived.Test.YtigdlmpjijhpaaaGreatK21
import Derived.Test.YtigdlmpjijhpaaaGreatK24
import Derived.Test.YtigdlmpjijhpaaaGreatK17
set_option linter.all false
namespace Go.Proofs.YtigdlmpjijhpaaaGreat.Ax
open Go Go.Proofs
abbrev Mat:=List (List Int)
def xP(D:Mat)(a b:Nat):Int:=(D.getD a []).getD b 0
def QN(D:Mat)(a b:Nat)(n:Int):Mat:=D.set a ((D.getD a []).set b n)
def vA(D:Mat)(a b:Nat)(n:Int):Mat:=if xP D a b= -1∨n<xP D a b then QN D a b n else D
def wAa(n i:Nat):List Int:=(List.replicate n (-1)).set i 0
def QO(n:Nat):Mat:=(List.range n).map (wAa n)
def x7a(D:Mat)(w:Way):Mat:=vA (vA D w.1.toNat w.2.1.toNat w.2.2) w.2.1.toNat w.1.toNat w.2.2
def Wr(b y:Nat)(a:Nat)(D:Mat):Mat:=if xP D y b≠ -1 then vA D a b (wr (xP D a y+xP D y b)) else D
def Ws(n y:Nat)(D:Mat)(a:Nat):Mat:=if xP D a y= -1 then D else(List.range n).foldl (λD b=>Wr b y a D) D
def jia(n:Nat)(D:Mat)(y:Nat):Mat:=(List.range n).foldl (Ws n y) D
def yN(s:Setup):Mat:=(List.range s.places.toNat).foldl (jia s.places.toNat) (s.ways.foldl x7a (QO s.places.toNat))
def Sq(n:Nat)(D:Mat):Prop:=D.length=n/\∀r∈D,r.length=n
theorem Ki{n:Nat}{D:Mat}(h:Sq n D){a:Nat}(c:a<n):∃r,D[a]? =some r/\D.getD a []=r/\r.length=n:=by
 have b:a<D.length:=by rw[h.1];exact c
 exact⟨D[a],zh b,by rw[zG,zh b];rfl,h.2 _ (zw b)⟩
theorem Kxa{n:Nat}{D:Mat}(h:Sq n D)(a b:Nat)(v:Int):Sq n (QN D a b v):=by
 refine⟨by simp[QN,h.1],λr c=>?_⟩
 rcases List.mem_or_eq_of_mem_set c with c|rfl
 ·exact h.2 r c
 ·rw[zP]
  by_cases i:a<n
  ·obtain⟨r,_,e,f⟩:=Ki h i
   rw[e];exact f
  ·have g:D.set a ((D.getD a []).set b v)=D:=List.set_eq_of_length_le (by rw[h.1];omega)
   have d:(D.getD a []).set b v∈D:=by
    have:(D.getD a []).set b v∈D.set a ((D.getD a []).set b v):=c
    rwa[g] at this
   have:=h.2 _ d
   rwa[zP] at this
theorem Vi{n:Nat}{D:Mat}(h:Sq n D)(a b:Nat)(v:Int):Sq n (vA D a b v):=by
 unfold vA
 split
 ·exact Kxa h a b v
 ·exact h
theorem k4a(n:Nat):Sq n (QO n):=⟨by simp[QO],λr a=>by
 obtain⟨i,_,rfl⟩:=zx.1 a
 simp[wAa]⟩
set_option maxRecDepth 100000
attribute [go_sem] y9a wja ty3
def wX(v:Int)(m k:Nat):List (List AV):=List.replicate k [i64 v]++List.replicate (m - k) [i64 0]
theorem kga{v:Int}{m k:Nat}(h:k<=m):(wX v m k).length=m:=by
 simp[wX];omega
theorem kha{v:Int}{m:Nat}:wX v m m=List.replicate m [i64 v]:=by simp[wX]
theorem kia{v:Int}{m k j:Nat}(h:k+j<=m):xR (wX v m k) k (List.replicate j [i64 v])=wX v m (k+j):=by
 unfold xR wX
 rw[jt (by simp),List.take_of_length_le (by simp),qY,List.drop_append,List.drop_eq_nil_of_le (by simp),qY,List.drop_replicate,List.nil_append,List.replicate_append_replicate,show m - k - (k+j - k)=m - (k+j) by omega]
theorem Yya(h:List Ob)(x:AV)(v:Int)(m:Nat)(i:SlOf h x 1 [[i64 v]])(S:1<=m)(O:m<=65536):
  ACalls Tryz.prog 289 [x,i64 m] h λr h'=>∃L id st,h'=h++L/\NoRes L/\h.length<=id/\r= .tl id st/\h'[id]? =some (.row 3 1 (List.replicate m [i64 v]) st):=by
 have hex:∃r h',(∃L id st,h'=h++L/\NoRes L/\h.length<=id/\r=AV.tl id st/\h'[id]? =some (.row 3 1 (List.replicate m [i64 v]) st))/\ResK h h':=
  ⟨_,_,⟨[.row 3 1 (List.replicate m [i64 v]) 0],h.length,0,rfl,zF rfl,zo _,rfl,by rw[zM rfl];rfl⟩,q8⟩
 have z:decide ((m:Int)<0)=false:=by simp
 have A:IntKind.wrap .u64 (m:Int)=(m:Int):=by
  simp[IntKind.wrap,IntKind.bits,IntKind.signed];omega
 have Q:IntKind.wrap .i64 (m:Int)=(m:Int):=qb (by unfold Fit;omega)
 have D:decide ((m:Int)>9223372036854775807)=false:=by simp;omega
 have J:(m:Int)*9<=140737488355328:=by omega
 have l:∀M,zZ (h++M) x=some [[i64 v]]:=λM=>(i.app M).rows
 have y:List.take m [[i64 v]]=[[i64 v]]:=List.take_of_length_le (by simp;omega)
 have N:([[i64 v]].all λr=>r.length==1 && r.all AV.one)=true:=rfl
 have P:IntKind.wrap .u64 (1:Int)=((1:Nat):Int):=by decide
 have R:((1*m / 18446744073709551616:Nat):Int)=0:=by
  rw[Nat.one_mul,Nat.div_eq_of_lt (by omega)];rfl
 have I:((1*m % 18446744073709551616:Nat):Int)=(m:Int):=by
  rw[Nat.one_mul,Nat.mod_eq_of_lt (by omega)]
 refine zl Tryz.f289 [.tmp 4] 48 rfl rfl rfl rfl rfl rfl (by decide) (hex) λB=>?_
 simp only[go_sem,i.rows,z,A,P]
 refine zi (Yxa 1 m (by omega) (by omega) _) ?_
 rintro _ d ⟨rfl,G⟩
 subst G
 rw[R,I]
 have F:decide ((0:Int)>0)=false:=rfl
 simp only[go_sem,F,D,qE,Q,J,l,i.rows,Int.toNat_natCast,zg,qY,y,N,List.length_cons,List.length_nil,List.drop_replicate]
 refine zO (by decide) (λn T h'=>∃k:Nat,1<=k/\k<=m/\h'=d++[.row 3 1 (wX v m k) 0]/\T 7= .tl d.length 0/\T 8=i64 k/\n=m - k) (m - 1)
  ⟨1,by omega,by omega,rfl,by simp only[go_sem],by(simp only[go_sem]<;>rfl),rfl⟩ ?_
 rintro n T h' ⟨k,C,u,rfl,p,t8,rfl⟩
 have c:=kga (v:=v) u
 have U:∀M,(d++(.row 3 1 (wX v m k) 0::M))[d.length]? =some (.row 3 1 (wX v m k) 0):=λM=>by rw[zM rfl];rfl
 simp only[go_sem,p,t8,c]
 refine ways (λe=>?_) (λe=>?_)
 ·have K:k<m:=dlt e
  simp only[go_sem]
  refine zV rfl [] 0 [(0,0,[]),(1,0,[]),(2,0,[]),(4,0,[]),(5,0,[]),(3,0,[]),(6,0,[]),(7,0,[]),(8,0,[]),(9,0,[])] rfl (by decide) (by decide) ?_
  have o:(k:Int)<=(m:Int):=by omega
  have t:(m:Int)<=(m:Int):=by omega
  have f:k+(m - k)<=m:=by omega
  have q:0+k<=m:=by omega
  have b:List.take k (wX v m k)=List.replicate k [i64 v]:=by
   unfold wX
   rw[jt (by simp),List.take_of_length_le (by simp)]
  have g:∀j,((List.replicate j [i64 v]).all λr=>r.length==1 && r.all AV.one)=true:=λj=>by
   rw[zL]
   intro r E
   rw[List.eq_of_mem_replicate E]
   rfl
  simp only[go_sem,p,t8,c,o,t,or_true,Int.toNat_natCast,zg,f,q,Nat.sub_zero,u,b,List.take_replicate,qY,g]
  obtain⟨j,H⟩:∃j,j=min (m - k) k:=⟨_,rfl⟩
  have a:=kia (v:=v) (show k+j<=m by omega)
  unfold xR at a
  rw[qY,b,zn] at a
  rw[<-H,a]
  have wk:IntKind.wrap .i64 ((k:Int)+(j:Int))=((k+j:Nat):Int):=Zl (by omega)
  exact⟨m - (k+j),by omega,k+j,by omega,by omega,rfl,by rw[wk],rfl⟩
 ·have w:m<=k:=xc e
  have s:k=m:=by omega
  subst s
  simp only[go_sem,p]
  exact⟨.tl d.length 0,by simp only[go_sem],.inl ⟨_,d.length,0,rfl,zF rfl,zo _,rfl,by rw[zM rfl,kha];rfl⟩⟩
