/-
  Joined.
-/
import Derived.Test.YtfmldcilgbbimaaGreatK21
import Derived.Test.YtfmldcilgbbimaaGreatK24
import Derived.Test.YtfmldcilgbbimaaGreatK17
set_option linter.unusedSimpArgs false
set_option linter.unusedVariables false
namespace Go.Proofs.YtfmldcilgbbimaaGreat.Ax
open Go Go.Proofs
abbrev Mat:=List (List Int)
def jL (D:Mat) (a b:Nat):Int:=(D.getD a []).getD b 0
def Qm (D:Mat) (a b:Nat) (n:Int):Mat:=D.set a ((D.getD a []).set b n)
def kx (D:Mat) (a b:Nat) (n:Int):Mat:=if jL D a b= -1∨n<jL D a b then Qm D a b n else D
def wwa (n i:Nat):List Int:=(List.replicate n (-1)).set i 0
def Qn (n:Nat):Mat:=(List.range n).map (wwa n)
def xYa (D:Mat) (w:Way):Mat:=kx (kx D w.1.toNat w.2.1.toNat w.2.2) w.2.1.toNat w.1.toNat w.2.2
def Wj (b y:Nat) (a:Nat) (D:Mat):Mat:=if jL D y b≠ -1 then kx D a b (wr (jL D a y+jL D y b)) else D
def Wk (n y:Nat) (D:Mat) (a:Nat):Mat:=if jL D a y= -1 then D else (List.range n).foldl (λD b=>Wj b y a D) D
def q8a (n:Nat) (D:Mat) (y:Nat):Mat:=(List.range n).foldl (Wk n y) D
def wQ (s:Setup):Mat:=(List.range s.places.toNat).foldl (q8a s.places.toNat) (s.ways.foldl xYa (Qn s.places.toNat))
def Sq (n:Nat) (D:Mat):Prop:=D.length=n/\∀r∈D,r.length=n
theorem XX {n:Nat} {D:Mat} (h:Sq n D) {a:Nat} (c:a<n):∃r,D[a]? =some r/\D.getD a []=r/\r.length=n:=by
 have b:a<D.length:=by rw[h.1];exact c
 exact ⟨D[a],List.getElem?_eq_getElem b,by rw[List.getD_eq_getElem?_getD,List.getElem?_eq_getElem b];rfl,h.2 _ (List.getElem_mem b)⟩
theorem KDa {n:Nat} {D:Mat} (h:Sq n D) (a b:Nat) (v:Int):Sq n (Qm D a b v):=by
 refine ⟨by simp[Qm,h.1],λr c=>?_⟩
 rcases List.mem_or_eq_of_mem_set c with c | rfl
 ·exact h.2 r c
 ·rw[List.length_set]
  by_cases e:a<n
  ·obtain ⟨r,_,f,i⟩:=XX h e
   rw[f];exact i
  ·have g:D.set a ((D.getD a []).set b v)=D:=List.set_eq_of_length_le (by rw[h.1];omega)
   have d:(D.getD a []).set b v∈D:=by
    have:(D.getD a []).set b v∈D.set a ((D.getD a []).set b v):=c
    rwa[g] at this
   have:=h.2 _ d
   rwa[List.length_set] at this
theorem K5 {n:Nat} {D:Mat} (h:Sq n D) (a b:Nat) (v:Int):Sq n (kx D a b v):=by
 unfold kx
 split
 ·exact KDa h a b v
 ·exact h
theorem k6a (n:Nat):Sq n (Qn n):=⟨by simp[Qn],λr a=>by
 obtain ⟨i,_,rfl⟩:=List.mem_map.1 a
 simp[wwa]⟩
set_option maxRecDepth 100000
attribute [go_sem] ysa vHa ty3
def wj (v:Int) (m k:Nat):List (List AV):=List.replicate k [i64 v]++List.replicate (m - k) [i64 0]
theorem x6a {v:Int} {m k:Nat} (h:k<=m):(wj v m k).length=m:=by
 simp[wj];omega
theorem x7a {v:Int} {m:Nat}:wj v m m=List.replicate m [i64 v]:=by simp[wj]
theorem x8a {v:Int} {m k j:Nat} (h:k+j<=m):jP (wj v m k) k (List.replicate j [i64 v])=wj v m (k+j):=by
 unfold jP wj
 rw[List.take_append_of_le_length (by simp),List.take_of_length_le (by simp),List.length_replicate,List.drop_append,List.drop_eq_nil_of_le (by simp),List.length_replicate,List.drop_replicate,List.nil_append,List.replicate_append_replicate,show m - k - (k+j - k)=m - (k+j) by omega]
theorem Y2a (h:List Ob) (x:AV) (v:Int) (m:Nat) (o:SlOf h x 1 [[i64 v]]) (S:1<=m) (C:m<=65536):
  ACalls Tryz.prog 267 [x,i64 m] h λr h'=>∃L id st,h'=h++L/\NoRes L/\h.length<=id/\r= .tl id st/\h'[id]? =some (.row 3 1 (List.replicate m [i64 v]) st):=by
 have hex:∃r h',(∃L id st,h'=h++L/\NoRes L/\h.length<=id/\r=AV.tl id st/\h'[id]? =some (.row 3 1 (List.replicate m [i64 v]) st))/\ResK h h':=
  ⟨_,_,⟨[.row 3 1 (List.replicate m [i64 v]) 0],h.length,0,rfl,zi rfl,Nat.le_refl _,rfl,by rw[zo rfl];rfl⟩,zR⟩
 have y:decide ((m:Int)<0)=false:=by simp
 have D:IntKind.wrap .u64 (m:Int)=(m:Int):=by
  simp[IntKind.wrap,IntKind.bits,IntKind.signed];omega
 have H:IntKind.wrap .i64 (m:Int)=(m:Int):=zI (by unfold Fit;omega)
 have O:decide ((m:Int)>9223372036854775807)=false:=by simp;omega
 have K:(m:Int)*9<=140737488355328:=by omega
 have t:∀M,zq (h++M) x=some [[i64 v]]:=λM=>(o.app M).rows
 have P:List.take m [[i64 v]]=[[i64 v]]:=List.take_of_length_le (by simp;omega)
 have N:([[i64 v]].all λr=>r.length==1 && r.all AV.one)=true:=rfl
 have F:IntKind.wrap .u64 (1:Int)=((1:Nat):Int):=by decide
 have G:((1*m / 18446744073709551616:Nat):Int)=0:=by
  rw[Nat.one_mul,Nat.div_eq_of_lt (by omega)];rfl
 have w:((1*m % 18446744073709551616:Nat):Int)=(m:Int):=by
  rw[Nat.one_mul,Nat.mod_eq_of_lt (by omega)]
 refine zf Tryz.f267 [.tmp 4] 48 rfl rfl rfl rfl rfl rfl (by decide) (hex) λB=>?_
 simp only[go_sem,o.rows,y,D,F]
 refine zc (Y1a 1 m (by omega) (by omega) _) ?_
 rintro _ d ⟨rfl,J⟩
 subst J
 rw[G,w]
 have E:decide ((0:Int)>0)=false:=rfl
 simp only[go_sem,E,O,zJ,H,K,t,o.rows,Int.toNat_natCast,Int.natCast_nonneg,List.length_replicate,P,N,List.length_cons,List.length_nil,List.drop_replicate]
 refine zj (by decide) (λn T h'=>∃k:Nat,1<=k/\k<=m/\h'=d++[.row 3 1 (wj v m k) 0]/\T 7= .tl d.length 0/\T 8=i64 k/\n=m - k) (m - 1)
  ⟨1,by omega,by omega,rfl,by simp only[go_sem],by (simp only[go_sem]<;>rfl),rfl⟩ ?_
 rintro n T h' ⟨k,A,u,rfl,i,t8,rfl⟩
 have c:=x6a (v:=v) u
 have U:∀M,(d++(.row 3 1 (wj v m k) 0::M))[d.length]? =some (.row 3 1 (wj v m k) 0):=λM=>by rw[zo rfl];rfl
 simp only[go_sem,i,t8,c]
 refine ways (λe=>?_) (λe=>?_)
 ·have z:k<m:=dlt e
  simp only[go_sem]
  refine zn rfl [] 0 [(0,0,[]),(1,0,[]),(2,0,[]),(4,0,[]),(5,0,[]),(3,0,[]),(6,0,[]),(7,0,[]),(8,0,[]),(9,0,[])] rfl (by decide) (by decide) ?_
  have g:(k:Int)<=(m:Int):=by omega
  have l:(m:Int)<=(m:Int):=by omega
  have f:k+(m - k)<=m:=by omega
  have q:0+k<=m:=by omega
  have a:List.take k (wj v m k)=List.replicate k [i64 v]:=by
   unfold wj
   rw[List.take_append_of_le_length (by simp),List.take_of_length_le (by simp)]
  have s:∀j,((List.replicate j [i64 v]).all λr=>r.length==1 && r.all AV.one)=true:=λj=>by
   rw[List.all_eq_true]
   intro r Q
   rw[List.eq_of_mem_replicate Q]
   rfl
  simp only[go_sem,i,t8,c,g,l,or_true,Int.toNat_natCast,Int.natCast_nonneg,f,q,Nat.sub_zero,u,a,List.take_replicate,List.length_replicate,s]
  obtain ⟨j,I⟩:∃j,j=min (m - k) k:=⟨_,rfl⟩
  have b:=x8a (v:=v) (show k+j<=m by omega)
  unfold jP at b
  rw[List.length_replicate,a,List.append_assoc] at b
  rw[<-I,b]
  have wk:IntKind.wrap .i64 ((k:Int)+(j:Int))=((k+j:Nat):Int):=yy (by omega)
  exact ⟨m - (k+j),by omega,k+j,by omega,by omega,rfl,by rw[wk],rfl⟩
 ·have R:m<=k:=qU e
  have p:k=m:=by omega
  subst p
  simp only[go_sem,i]
  exact ⟨.tl d.length 0,by simp only[go_sem],.inl ⟨_,d.length,0,rfl,zi rfl,Nat.le_refl _,rfl,by rw[zo rfl,x7a];rfl⟩⟩
end Go.Proofs.YtfmldcilgbbimaaGreat.Ax
