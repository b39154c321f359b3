/-
  Joined.
-/
import Derived.Test.YtigdlmpjijhpaaaGreatK21
import Derived.Test.YtigdlmpjijhpaaaGreatK24
import Derived.Test.YtigdlmpjijhpaaaGreatK17
set_option linter.unusedSimpArgs false
set_option linter.unusedVariables false
namespace Go.Proofs.YtigdlmpjijhpaaaGreat.Ax
open Go Go.Proofs
abbrev Mat:=List (List Int)
def js (D:Mat) (a b:Nat):Int:=(D.getD a []).getD b 0
def yY (D:Mat) (a b:Nat) (n:Int):Mat:=D.set a ((D.getD a []).set b n)
def xw (D:Mat) (a b:Nat) (n:Int):Mat:=if js D a b= -1∨n<js D a b then yY D a b n else D
def xda (n i:Nat):List Int:=(List.replicate n (-1)).set i 0
def yZ (n:Nat):Mat:=(List.range n).map (xda n)
def zXa (D:Mat) (w:Way):Mat:=xw (xw D w.1.toNat w.2.1.toNat w.2.2) w.2.1.toNat w.1.toNat w.2.2
def X5 (b y:Nat) (a:Nat) (D:Mat):Mat:=if js D y b≠ -1 then xw D a b (wr (js D a y+js D y b)) else D
def X6 (n y:Nat) (D:Mat) (a:Nat):Mat:=if js D a y= -1 then D else (List.range n).foldl (λD b=>X5 b y a D) D
def Ym (n:Nat) (D:Mat) (y:Nat):Mat:=(List.range n).foldl (X6 n y) D
def vS (s:Setup):Mat:=(List.range s.places.toNat).foldl (Ym s.places.toNat) (s.ways.foldl zXa (yZ s.places.toNat))
def Sq (n:Nat) (D:Mat):Prop:=D.length=n/\∀r∈D,r.length=n
theorem Q2 {n:Nat} {D:Mat} (h:Sq n D) {a:Nat} (c:a<n):∃r,D[a]? =some r/\D.getD a []=r/\r.length=n:=by
 have b:a<D.length:=by rw[h.1];exact c
 exact ⟨D[a],List.getElem?_eq_getElem b,by rw[List.getD_eq_getElem?_getD,List.getElem?_eq_getElem b];rfl,h.2 _ (List.getElem_mem b)⟩
theorem Zxa {n:Nat} {D:Mat} (h:Sq n D) (a b:Nat) (v:Int):Sq n (yY D a b v):=by
 refine ⟨by simp[yY,h.1],λr c=>?_⟩
 rcases List.mem_or_eq_of_mem_set c with c | rfl
 ·exact h.2 r c
 ·rw[List.length_set]
  by_cases i:a<n
  ·obtain ⟨r,_,f,e⟩:=Q2 h i
   rw[f];exact e
  ·have g:D.set a ((D.getD a []).set b v)=D:=List.set_eq_of_length_le (by rw[h.1];omega)
   have d:(D.getD a []).set b v∈D:=by
    have:(D.getD a []).set b v∈D.set a ((D.getD a []).set b v):=c
    rwa[g] at this
   have:=h.2 _ d
   rwa[List.length_set] at this
theorem J0 {n:Nat} {D:Mat} (h:Sq n D) (a b:Nat) (v:Int):Sq n (xw D a b v):=by
 unfold xw
 split
 ·exact Zxa h a b v
 ·exact h
theorem qQa (n:Nat):Sq n (yZ n):=⟨by simp[yZ],λr a=>by
 obtain ⟨i,_,rfl⟩:=List.mem_map.1 a
 simp[xda]⟩
set_option maxRecDepth 100000
attribute [go_sem] xTa jla ty3
def vc (v:Int) (m k:Nat):List (List AV):=List.replicate k [i64 v]++List.replicate (m - k) [i64 0]
theorem z6a {v:Int} {m k:Nat} (h:k<=m):(vc v m k).length=m:=by
 simp[vc];omega
theorem z7a {v:Int} {m:Nat}:vc v m m=List.replicate m [i64 v]:=by simp[vc]
theorem z8a {v:Int} {m k j:Nat} (h:k+j<=m):ju (vc v m k) k (List.replicate j [i64 v])=vc v m (k+j):=by
 unfold ju vc
 rw[List.take_append_of_le_length (by simp),List.take_of_length_le (by simp),List.length_replicate,List.drop_append,List.drop_eq_nil_of_le (by simp),List.length_replicate,List.drop_replicate,List.nil_append,List.replicate_append_replicate,show m - k - (k+j - k)=m - (k+j) by omega]
theorem Xja (h:List Ob) (x:AV) (v:Int) (m:Nat) (i:SlOf h x 1 [[i64 v]]) (S:1<=m) (E:m<=65536):
  ACalls Tryz.prog 289 [x,i64 m] h λr h'=>∃L id st,h'=h++L/\NoRes L/\h.length<=id/\r= .tl id st/\h'[id]? =some (.row 3 1 (List.replicate m [i64 v]) st):=by
 have hex:∃r h',(∃L id st,h'=h++L/\NoRes L/\h.length<=id/\r=AV.tl id st/\h'[id]? =some (.row 3 1 (List.replicate m [i64 v]) st))/\ResK h h':=
  ⟨_,_,⟨[.row 3 1 (List.replicate m [i64 v]) 0],h.length,0,rfl,zj rfl,Nat.le_refl _,rfl,by rw[zm rfl];rfl⟩,zW⟩
 have N:decide ((m:Int)<0)=false:=by simp
 have C:IntKind.wrap .u64 (m:Int)=(m:Int):=by
  simp[IntKind.wrap,IntKind.bits,IntKind.signed];omega
 have D:IntKind.wrap .i64 (m:Int)=(m:Int):=zF (by unfold Fit;omega)
 have I:decide ((m:Int)>9223372036854775807)=false:=by simp;omega
 have H:(m:Int)*9<=140737488355328:=by omega
 have q:∀M,zo (h++M) x=some [[i64 v]]:=λM=>(i.app M).rows
 have O:List.take m [[i64 v]]=[[i64 v]]:=List.take_of_length_le (by simp;omega)
 have P:([[i64 v]].all λr=>r.length==1 && r.all AV.one)=true:=rfl
 have J:IntKind.wrap .u64 (1:Int)=((1:Nat):Int):=by decide
 have R:((1*m / 18446744073709551616:Nat):Int)=0:=by
  rw[Nat.one_mul,Nat.div_eq_of_lt (by omega)];rfl
 have Q:((1*m % 18446744073709551616:Nat):Int)=(m:Int):=by
  rw[Nat.one_mul,Nat.mod_eq_of_lt (by omega)]
 refine zf Tryz.f289 [.tmp 4] 48 rfl rfl rfl rfl rfl rfl (by decide) (hex) λB=>?_
 simp only[go_sem,i.rows,N,C,J]
 refine zd (Xia 1 m (by omega) (by omega) _) ?_
 rintro _ d ⟨rfl,z⟩
 subst z
 rw[R,Q]
 have w:decide ((0:Int)>0)=false:=rfl
 simp only[go_sem,w,I,zL,D,H,q,i.rows,Int.toNat_natCast,Int.natCast_nonneg,List.length_replicate,O,P,List.length_cons,List.length_nil,List.drop_replicate]
 refine zk (by decide) (λn T h'=>∃k:Nat,1<=k/\k<=m/\h'=d++[.row 3 1 (vc v m k) 0]/\T 7= .tl d.length 0/\T 8=i64 k/\n=m - k) (m - 1)
  ⟨1,by omega,by omega,rfl,by simp only[go_sem],by (simp only[go_sem]<;>rfl),rfl⟩ ?_
 rintro n T h' ⟨k,A,u,rfl,s,t8,rfl⟩
 have c:=z6a (v:=v) u
 have U:∀M,(d++(.row 3 1 (vc v m k) 0::M))[d.length]? =some (.row 3 1 (vc v m k) 0):=λM=>by rw[zm rfl];rfl
 simp only[go_sem,s,t8,c]
 refine ways (λe=>?_) (λe=>?_)
 ·have F:k<m:=dlt e
  simp only[go_sem]
  refine zp rfl [] 0 [(0,0,[]),(1,0,[]),(2,0,[]),(4,0,[]),(5,0,[]),(3,0,[]),(6,0,[]),(7,0,[]),(8,0,[]),(9,0,[])] rfl (by decide) (by decide) ?_
  have t:(k:Int)<=(m:Int):=by omega
  have l:(m:Int)<=(m:Int):=by omega
  have f:k+(m - k)<=m:=by omega
  have o:0+k<=m:=by omega
  have b:List.take k (vc v m k)=List.replicate k [i64 v]:=by
   unfold vc
   rw[List.take_append_of_le_length (by simp),List.take_of_length_le (by simp)]
  have g:∀j,((List.replicate j [i64 v]).all λr=>r.length==1 && r.all AV.one)=true:=λj=>by
   rw[List.all_eq_true]
   intro r G
   rw[List.eq_of_mem_replicate G]
   rfl
  simp only[go_sem,s,t8,c,t,l,or_true,Int.toNat_natCast,Int.natCast_nonneg,f,o,Nat.sub_zero,u,b,List.take_replicate,List.length_replicate,g]
  obtain ⟨j,K⟩:∃j,j=min (m - k) k:=⟨_,rfl⟩
  have a:=z8a (v:=v) (show k+j<=m by omega)
  unfold ju at a
  rw[List.length_replicate,b,List.append_assoc] at a
  rw[<-K,a]
  have wk:IntKind.wrap .i64 ((k:Int)+(j:Int))=((k+j:Nat):Int):=wx (by omega)
  exact ⟨m - (k+j),by omega,k+j,by omega,by omega,rfl,by rw[wk],rfl⟩
 ·have y:m<=k:=jk e
  have p:k=m:=by omega
  subst p
  simp only[go_sem,s]
  exact ⟨.tl d.length 0,by simp only[go_sem],.inl ⟨_,d.length,0,rfl,zj rfl,Nat.le_refl _,rfl,by rw[zm rfl,z7a];rfl⟩⟩
end Go.Proofs.YtigdlmpjijhpaaaGreat.Ax
