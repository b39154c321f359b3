/-
  Joined.
-/
import Derived.Test.YtfmldcilgbbimaaGreatK21
import Derived.Test.YtfmldcilgbbimaaGreatK24
import Derived.Test.YtfmldcilgbbimaaGreatK17
set_option linter.unusedSimpArgs false
set_option linter.unusedVariables false
namespace Go.Proofs.YtfmldcilgbbimaaGreat.Ax
open Go Go.Proofs
abbrev Mat:=List (List Int)
def jm (D:Mat) (a b:Nat):Int:=(D.getD a []).getD b 0
def yQ (D:Mat) (a b:Nat) (n:Int):Mat:=D.set a ((D.getD a []).set b n)
def xn (D:Mat) (a b:Nat) (n:Int):Mat:=if jm D a b= -1∨n<jm D a b then yQ D a b n else D
def jWa (n i:Nat):List Int:=(List.replicate n (-1)).set i 0
def yR (n:Nat):Mat:=(List.range n).map (jWa n)
def zGa (D:Mat) (w:Way):Mat:=xn (xn D w.1.toNat w.2.1.toNat w.2.2) w.2.1.toNat w.1.toNat w.2.2
def XX (b y:Nat) (a:Nat) (D:Mat):Mat:=if jm D y b≠ -1 then xn D a b (wr (jm D a y+jm D y b)) else D
def XY (n y:Nat) (D:Mat) (a:Nat):Mat:=if jm D a y= -1 then D else (List.range n).foldl (λD b=>XX b y a D) D
def Yc (n:Nat) (D:Mat) (y:Nat):Mat:=(List.range n).foldl (XY n y) D
def vK (s:Setup):Mat:=(List.range s.places.toNat).foldl (Yc s.places.toNat) (s.ways.foldl zGa (yR s.places.toNat))
def Sq (n:Nat) (D:Mat):Prop:=D.length=n/\∀r∈D,r.length=n
theorem QY {n:Nat} {D:Mat} (h:Sq n D) {a:Nat} (c:a<n):∃r,D[a]? =some r/\D.getD a []=r/\r.length=n:=by
 have b:a<D.length:=by rw[h.1];exact c
 exact ⟨D[a],List.getElem?_eq_getElem b,by rw[List.getD_eq_getElem?_getD,List.getElem?_eq_getElem b];rfl,h.2 _ (List.getElem_mem b)⟩
theorem y8a {n:Nat} {D:Mat} (h:Sq n D) (a b:Nat) (v:Int):Sq n (yQ D a b v):=by
 refine ⟨by simp[yQ,h.1],λr c=>?_⟩
 rcases List.mem_or_eq_of_mem_set c with c | rfl
 ·exact h.2 r c
 ·rw[List.length_set]
  by_cases f:a<n
  ·obtain ⟨r,_,e,i⟩:=QY h f
   rw[e];exact i
  ·have g:D.set a ((D.getD a []).set b v)=D:=List.set_eq_of_length_le (by rw[h.1];omega)
   have d:(D.getD a []).set b v∈D:=by
    have:(D.getD a []).set b v∈D.set a ((D.getD a []).set b v):=c
    rwa[g] at this
   have:=h.2 _ d
   rwa[List.length_set] at this
theorem JV {n:Nat} {D:Mat} (h:Sq n D) (a b:Nat) (v:Int):Sq n (xn D a b v):=by
 unfold xn
 split
 ·exact y8a h a b v
 ·exact h
theorem qxa (n:Nat):Sq n (yR n):=⟨by simp[yR],λr a=>by
 obtain ⟨i,_,rfl⟩:=List.mem_map.1 a
 simp[jWa]⟩
set_option maxRecDepth 100000
attribute [go_sem] xAa q4a ty3
def kV (v:Int) (m k:Nat):List (List AV):=List.replicate k [i64 v]++List.replicate (m - k) [i64 0]
theorem zOa {v:Int} {m k:Nat} (h:k<=m):(kV v m k).length=m:=by
 simp[kV];omega
theorem zPa {v:Int} {m:Nat}:kV v m m=List.replicate m [i64 v]:=by simp[kV]
theorem zQa {v:Int} {m k j:Nat} (h:k+j<=m):jp (kV v m k) k (List.replicate j [i64 v])=kV v m (k+j):=by
 unfold jp kV
 rw[List.take_append_of_le_length (by simp),List.take_of_length_le (by simp),List.length_replicate,List.drop_append,List.drop_eq_nil_of_le (by simp),List.length_replicate,List.drop_replicate,List.nil_append,List.replicate_append_replicate,show m - k - (k+j - k)=m - (k+j) by omega]
theorem JPa (h:List Ob) (x:AV) (v:Int) (m:Nat) (t:SlOf h x 1 [[i64 v]]) (U:1<=m) (C:m<=65536):
  ACalls Tryz.prog 267 [x,i64 m] h λr h'=>∃L id st,h'=h++L/\NoRes L/\h.length<=id/\r= .tl id st/\h'[id]? =some (.row 3 1 (List.replicate m [i64 v]) st):=by
 have hex:∃r h',(∃L id st,h'=h++L/\NoRes L/\h.length<=id/\r=AV.tl id st/\h'[id]? =some (.row 3 1 (List.replicate m [i64 v]) st))/\ResK h h':=
  ⟨_,_,⟨[.row 3 1 (List.replicate m [i64 v]) 0],h.length,0,rfl,zj rfl,Nat.le_refl _,rfl,by rw[zm rfl];rfl⟩,zT⟩
 have H:decide ((m:Int)<0)=false:=by simp
 have F:IntKind.wrap .u64 (m:Int)=(m:Int):=by
  simp[IntKind.wrap,IntKind.bits,IntKind.signed];omega
 have P:IntKind.wrap .i64 (m:Int)=(m:Int):=zt (by unfold Fit;omega)
 have y:decide ((m:Int)>9223372036854775807)=false:=by simp;omega
 have K:(m:Int)*9<=140737488355328:=by omega
 have i:∀M,zo (h++M) x=some [[i64 v]]:=λM=>(t.app M).rows
 have w:List.take m [[i64 v]]=[[i64 v]]:=List.take_of_length_le (by simp;omega)
 have G:([[i64 v]].all λr=>r.length==1 && r.all AV.one)=true:=rfl
 have D:IntKind.wrap .u64 (1:Int)=((1:Nat):Int):=by decide
 have z:((1*m / 18446744073709551616:Nat):Int)=0:=by
  rw[Nat.one_mul,Nat.div_eq_of_lt (by omega)];rfl
 have Q:((1*m % 18446744073709551616:Nat):Int)=(m:Int):=by
  rw[Nat.one_mul,Nat.mod_eq_of_lt (by omega)]
 refine zf Tryz.f267 [.tmp 4] 48 rfl rfl rfl rfl rfl rfl (by decide) (hex) λB=>?_
 simp only[go_sem,t.rows,H,F,D]
 refine zd (JOa 1 m (by omega) (by omega) _) ?_
 rintro _ d ⟨rfl,O⟩
 subst O
 rw[z,Q]
 have A:decide ((0:Int)>0)=false:=rfl
 simp only[go_sem,A,y,zM,P,K,i,t.rows,Int.toNat_natCast,Int.natCast_nonneg,List.length_replicate,w,G,List.length_cons,List.length_nil,List.drop_replicate]
 refine zk (by decide) (λn T h'=>∃k:Nat,1<=k/\k<=m/\h'=d++[.row 3 1 (kV v m k) 0]/\T 7= .tl d.length 0/\T 8=i64 k/\n=m - k) (m - 1)
  ⟨1,by omega,by omega,rfl,by simp only[go_sem],by (simp only[go_sem]<;>rfl),rfl⟩ ?_
 rintro n T h' ⟨k,R,u,rfl,q,t8,rfl⟩
 have c:=zOa (v:=v) u
 have S:∀M,(d++(.row 3 1 (kV v m k) 0::M))[d.length]? =some (.row 3 1 (kV v m k) 0):=λM=>by rw[zm rfl];rfl
 simp only[go_sem,q,t8,c]
 refine ways (λe=>?_) (λe=>?_)
 ·have J:k<m:=dlt e
  simp only[go_sem]
  refine zp rfl [] 0 [(0,0,[]),(1,0,[]),(2,0,[]),(4,0,[]),(5,0,[]),(3,0,[]),(6,0,[]),(7,0,[]),(8,0,[]),(9,0,[])] rfl (by decide) (by decide) ?_
  have l:(k:Int)<=(m:Int):=by omega
  have o:(m:Int)<=(m:Int):=by omega
  have f:k+(m - k)<=m:=by omega
  have g:0+k<=m:=by omega
  have b:List.take k (kV v m k)=List.replicate k [i64 v]:=by
   unfold kV
   rw[List.take_append_of_le_length (by simp),List.take_of_length_le (by simp)]
  have p:∀j,((List.replicate j [i64 v]).all λr=>r.length==1 && r.all AV.one)=true:=λj=>by
   rw[List.all_eq_true]
   intro r N
   rw[List.eq_of_mem_replicate N]
   rfl
  simp only[go_sem,q,t8,c,l,o,or_true,Int.toNat_natCast,Int.natCast_nonneg,f,g,Nat.sub_zero,u,b,List.take_replicate,List.length_replicate,p]
  obtain ⟨j,E⟩:∃j,j=min (m - k) k:=⟨_,rfl⟩
  have a:=zQa (v:=v) (show k+j<=m by omega)
  unfold jp at a
  rw[List.length_replicate,b,List.append_assoc] at a
  rw[<-E,a]
  have wk:IntKind.wrap .i64 ((k:Int)+(j:Int))=((k+j:Nat):Int):=ws (by omega)
  exact ⟨m - (k+j),by omega,k+j,by omega,by omega,rfl,by rw[wk],rfl⟩
 ·have I:m<=k:=jd e
  have s:k=m:=by omega
  subst s
  simp only[go_sem,q]
  exact ⟨.tl d.length 0,by simp only[go_sem],.inl ⟨_,d.length,0,rfl,zj rfl,Nat.le_refl _,rfl,by rw[zm rfl,zPa];rfl⟩⟩
end Go.Proofs.YtfmldcilgbbimaaGreat.Ax
