import Derived.Test.YtjeehgkolepogaaGreatK24
set_option linter.all false
namespace Go.Proofs.YtjeehgkolepogaaGreat.Ax
open Go Go.Proofs
abbrev Mat:=List (List Int)
def qm(D:Mat)(a b:Nat):Int:=(D.getD a []).getD b 0
def xU(D:Mat)(a b:Nat)(n:Int):Mat:=D.set a ((D.getD a []).set b n)
def jY(D:Mat)(a b:Nat)(n:Int):Mat:=if qm D a b= -1∨n<qm D a b then xU D a b n else D
def V9(n i:Nat):List Int:=(List.replicate n (-1)).set i 0
def kV(n:Nat):Mat:=(List.range n).map (V9 n)
def QB(D:Mat)(w:Way):Mat:=jY (jY D w.1.toNat w.2.1.toNat w.2.2) w.2.1.toNat w.1.toNat w.2.2
def vp(b y:Nat)(a:Nat)(D:Mat):Mat:=if qm D y b≠ -1 then jY D a b (wr (qm D a y+qm D y b)) else D
def wR(n y:Nat)(D:Mat)(a:Nat):Mat:=if qm D a y= -1 then D else(List.range n).foldl (λD b=>vp b y a D) D
def Ja(n:Nat)(D:Mat)(y:Nat):Mat:=(List.range n).foldl (wR n y) D
def xH(s:Setup):Mat:=(List.range s.places.toNat).foldl (Ja s.places.toNat) (s.ways.foldl QB (kV s.places.toNat))
def Sq(n:Nat)(D:Mat):Prop:=D.length=n/\∀r∈D,r.length=n
def ZP{n:Nat}{D:Mat}(h:Sq n D){a:Nat}(c:a<n):∃r,D[a]? =some r/\D.getD a []=r/\r.length=n:=by
 have b:a<D.length:=by rw[h.1];exact c
 exact⟨D[a],zg b,by rw[zn,zg b];rfl,h.2 _ (zx b)⟩
def vMa{n:Nat}{D:Mat}(h:Sq n D)(a b:Nat)(v:Int):Sq n (xU D a b v):=by
 refine⟨by simp[xU,h.1],λr c=>?_⟩;rcases List.mem_or_eq_of_mem_set c with c|rfl
 ·exact h.2 r c
 ·rw[qP];by_cases f:a<n
  ·obtain⟨r,_,g,e⟩:=ZP h f;rw[g];exact e
  ·have i:D.set a ((D.getD a []).set b v)=D:=List.set_eq_of_length_le (by rw[h.1];omega)
   have d:(D.getD a []).set b v∈D:=by
    have:(D.getD a []).set b v∈D.set a ((D.getD a []).set b v):=c;rwa[i] at this
   have:=h.2 _ d;rwa[qP] at this
def yx{n:Nat}{D:Mat}(h:Sq n D)(a b:Nat)(v:Int):Sq n (jY D a b v):=by
 unfold jY;split
 ·exact vMa h a b v
 ·exact h
def K2(n:Nat):Sq n (kV n):=⟨by simp[kV],λr a=>by
 obtain⟨i,_,rfl⟩:=zQ.1 a;simp[V9]⟩
set_option maxRecDepth 100000
attribute [go_sem] qPa zBa ty3
def vQ(v:Int)(m k:Nat):List (List AV):=List.replicate k [i64 v]++List.replicate (m - k) [i64 0]
def YB{v:Int}{m k:Nat}(h:k<=m):(vQ v m k).length=m:=by
 simp[vQ];omega
def YC{v:Int}{m:Nat}:vQ v m m=List.replicate m [i64 v]:=by simp[vQ]
def YD{v:Int}{m k j:Nat}(h:k+j<=m):xf (vQ v m k) k (List.replicate j [i64 v])=vQ v m (k+j):=by
 unfold xf vQ;rw[List.take_append_of_le_length zh,List.take_of_length_le zh,qu,List.drop_append,List.drop_eq_nil_of_le zh,qu,List.drop_replicate,List.nil_append,List.replicate_append_replicate,show m - k - (k+j - k)=m - (k+j) by omega]
def c109(h:List Ob)(x:AV)(v:Int)(m:Nat)(s:SlOf h x 1 [[i64 v]])(V:1<=m)(J:m<=65536):
    ACalls Tryz.prog 142 [x,i64 m] h λr h'=>∃L id st,h'=h++L/\NoRes L/\h.length<=id/\r= .tl id st/\h'[id]? =some (.row 3 1 (List.replicate m [i64 v]) st):=by
 have hex:∃r h',(∃L id st,h'=h++L/\NoRes L/\h.length<=id/\r=AV.tl id st/\h'[id]? =some (.row 3 1 (List.replicate m [i64 v]) st))/\ResK h h':=
  ⟨_,_,⟨[.row 3 1 (List.replicate m [i64 v]) 0],h.length,0,rfl,zW rfl,zB _,rfl,by rw[qr rfl];rfl⟩,jp⟩
 have R:decide ((m:Int)<0)=false:=zh
 have z:IntKind.wrap .u64 (m:Int)=(m:Int):=by
  simp[IntKind.wrap,IntKind.bits,IntKind.signed];omega
 have y:IntKind.wrap .i64 (m:Int)=(m:Int):=qb qg;have G:decide ((m:Int)>9223372036854775807)=false:=zE;have Q:(m:Int)*9<=140737488355328:=zb;have p:∀M,zI (h++M) x=some [[i64 v]]:=λM=>(s.app M).rows;have A:List.take m [[i64 v]]=[[i64 v]]:=List.take_of_length_le zE;have H:([[i64 v]].all λr=>r.length==1 && r.all AV.one)=true:=rfl;have D:IntKind.wrap .u64 (1:Int)=((1:Nat):Int):=ze
 have P:((1*m / 18446744073709551616:Nat):Int)=0:=by
  rw[Nat.one_mul,Nat.div_eq_of_lt zb];rfl
 have N:((1*m % 18446744073709551616:Nat):Int)=(m:Int):=by
  rw[Nat.one_mul,Nat.mod_eq_of_lt zb]
 refine enterQX Tryz.f142 (λB=>?_) (hex);simp only[go_sem,s.rows,R,z,D];refine zl (ywa 1 m zb zb _) ?_;rintro _ d ⟨rfl,E⟩;subst E;rw[P,N];have K:decide ((0:Int)>0)=false:=rfl;simp only[go_sem,K,G,qv,y,Q,p,s.rows,Int.toNat_natCast,zd,qu,A,H,List.length_cons,List.length_nil,List.drop_replicate]
 refine wp_loop_a ze (λn T h'=>∃k:Nat,1<=k/\k<=m/\h'=d++[.row 3 1 (vQ v m k) 0]/\T 7= .tl d.length 0/\T 8=i64 k/\n=m - k) (m - 1)
  ⟨1,zb,zb,rfl,zo,by(simp only[go_sem]<;>rfl),rfl⟩ ?_
 rintro n T h' ⟨k,S,w,rfl,l,u,rfl⟩;have c:=YB (v:=v) w;have U:∀M,(d++(.row 3 1 (vQ v m k) 0::M))[d.length]? =some (.row 3 1 (vQ v m k) 0):=λM=>by rw[qr rfl];rfl
 simp only[go_sem,l,u,c];refine ways (λe=>?_) (λe=>?_)
 ·have F:k<m:=dlt e;refine zz ?_;refine zZ [] 0 (oF [0,1,2,4,5,3,6,7,8,9] ([])) ?_;have o:(k:Int)<=(m:Int):=zb;have t:(m:Int)<=(m:Int):=zb;have f:k+(m - k)<=m:=zb;have i:0+k<=m:=zb
  have b:List.take k (vQ v m k)=List.replicate k [i64 v]:=by
   unfold vQ;rw[List.take_append_of_le_length zh,List.take_of_length_le zh]
  have g:∀j,((List.replicate j [i64 v]).all λr=>r.length==1 && r.all AV.one)=true:=λj=>by
   rw[zY];intro r O;rw[List.eq_of_mem_replicate O];rfl
  simp only[go_sem,l,u,c,o,t,or_true,Int.toNat_natCast,zd,f,i,Nat.sub_zero,w,b,List.take_replicate,qu,g];obtain⟨j,C⟩:∃j,j=min (m - k) k:=⟨_,rfl⟩;have a:=YD (v:=v) (show k+j<=m by omega);unfold xf at a;rw[qu,b,zq] at a;rw[<-C,a];have wk:IntKind.wrap .i64 ((k:Int)+(j:Int))=((k+j:Nat):Int):=wP zb;exact⟨m - (k+j),zb,k+j,zb,zb,rfl,by rw[wk],rfl⟩
 ·have I:m<=k:=jO e;have q:k=m:=zb;subst q;simp only[go_sem,l];exact⟨.tl d.length 0,zo,.inl ⟨_,d.length,0,rfl,zW rfl,zB _,rfl,by rw[qr rfl,YC];rfl⟩⟩
