/-
  Joined.
-/
import Derived.Test.YtigdlmpjijhpaaaGreatK22
import Derived.Test.YtigdlmpjijhpaaaGreatK21
import Derived.Test.YtigdlmpjijhpaaaGreatK14
import Derived.Deep.SlicePairs
import Derived.WideShapes
import Derived.ChangeShapes
import Derived.Test.YtigdlmpjijhpaaaGreatK20
set_option linter.unusedSimpArgs false
set_option linter.unusedVariables false
namespace Go.Proofs.YtigdlmpjijhpaaaGreat.Ax
open Go Go.Proofs
set_option maxRecDepth 100000
attribute [go_sem] yya yCa
theorem New.of {h h':List Ob} {e:Nat} {x:AV} {rows:List (List AV)} {L L2:List Ob} (c:h'=h++L) (k:New h' e x rows L2):New h e x rows (L++L2):=λb a=>by
 have:=k (b++L) (by rw[c];simp[a])
 rwa[List.append_assoc] at this
theorem NoRes.app {L M:List Ob} (a:NoRes L) (b:NoRes M):NoRes (L++M):=λo c=>by
 rcases List.mem_append.1 c with h | h
 ·exact a o h
 ·exact b o h
theorem c67 (g:Seg):jf Tryz.prog 72 [.ag (xf g)] (bl true):=λh=>by
 refine zf Tryz.f72 [.tmp 2] 3 rfl rfl rfl rfl rfl rfl (by decide) (⟨_,_,⟨rfl,rfl⟩,.refl⟩) λB=>?_
 simp only[go_sem]
 (first | refine zc ?_ | refine ze ?_ (by rfl))<;>(simp only[go_sem]<;>try rfl)
theorem c68 (h:List Ob) (i:Nat) (g:Seg) (k:Int) (a:h[i]? =some (.box 3 [i64 k])):ACalls Tryz.prog 285 [.ag (xf g),.ptr i 0] h λr h'=>r=bl (g.kind==k)/\h'=h:=by
 have b:∀M,(h++M)[i]? =some (.box 3 [i64 k]):=λM=>zb a
 refine zf Tryz.f285 [.tmp 3] 8 rfl rfl rfl rfl rfl rfl (by decide) (⟨_,_,⟨rfl,rfl⟩,.refl⟩) λB=>?_
 simp only[go_sem,b]
 (first | refine zc ?_ | refine ze ?_ (by rfl))<;>(simp only[go_sem]<;>try rfl)
def xv (p:Seg->Bool) (l:List Seg):List Spn:=(l.filter p).map spS
theorem Yc (p:Seg->Bool) (l:List Seg) (g:Seg):xv p (l++[g])=if p g then xv p l++[spS g] else xv p l:=by
 unfold xv
 rw[List.filter_append,List.map_append]
 cases h:p g<;>simp[h]
theorem XO (p:Seg->Bool) (l:List Seg):(xv p l).length<=l.length:=by
 unfold xv
 rw[List.length_map]
 exact List.length_filter_le p l
set_option maxHeartbeats 1000000 in
theorem c66 (h:List Ob) (x:AV) (f:FuncId) (F:List AV) (l:List Seg) (p:Seg->Bool) (J:SlOf h x 5 (l.map xf)) (W:l.length<1048576) (Q:∀g∈l,∀L,ACalls Tryz.prog f ([.ag (xf g)]++F) (h++L) λr h'=>r=bl (p g)/\h'=h++L):
  ACalls Tryz.prog 71 [x,.fn (.func f) [] F] h λr h'=>∃L,h'=h++L/\NoRes L/\New h 2 r ((zt (xv p l)).map zz) L:=by
 have hex:∃r h',(∃L,h'=h++L/\NoRes L/\New h 2 r ((zt (xv p l)).map zz) L)/\ResK h h':=
  ⟨.sl 2 _,_,⟨[],rfl,jN,λ_ _=>⟨rfl,λ_=>rfl⟩⟩,zW⟩
 refine zf Tryz.f71 [.tmp 4] 29 rfl rfl rfl rfl rfl rfl (by decide) (hex) λB=>?_
 simp only[go_sem,J.rows,List.length_map]
 refine zk (by decide) (λm T h'=>∃k:Nat,k<=l.length/\Pre h h'/\OwnS h h' 143 2 (T 5) ((xv p (l.take k)).map zz)/\T 1= .fn (.func f) [] F/\T 8=x/\T 9=i64 l.length/\T 10=i64 k/\m=l.length - k) l.length
  ⟨0,by omega,Pre.refl,.inl ⟨by simp only[go_sem],rfl⟩,by simp only[go_sem],by simp only[go_sem],by simp only[go_sem],by (simp only[go_sem]<;>rfl),rfl⟩ ?_
 rintro m T h' ⟨k,Y,b,z,t1,t8,t9,t10,rfl⟩
 simp only[go_sem,t9,t10]
 refine ways (λe=>?_) (λe=>?_)
 ·have d:=dlt e
  obtain ⟨w,rfl,q⟩:=b
  have s:SlOf (h++w) x 5 (l.map xf):=J.app _
  have G:=s.at (i:=k) (by simpa using d)
  have j:(l.map xf)[k]? =some (xf l[k]):=by rw[List.getElem?_map,List.getElem?_eq_getElem d];rfl
  have C:(k:Int)<l.length:=by omega
  have a:=Yc p (l.take k) l[k]
  rw[List.take_append_getElem d] at a
  have n:l[k]∈l:=List.getElem_mem d
  obtain ⟨y,R⟩:∃y,y=l[k]:=⟨_,rfl⟩
  rw[<-R] at j a n
  have fin:k+1<=l.length:=by omega
  have V:List.length (xf y)=5:=rfl
  have c:=Q y n (w++[.box 146 (xf y)])
  rw[<-List.append_assoc] at c
  have b:Pre h (h++w):=⟨w,rfl,q⟩
  generalize h++w=h' at*
  simp only[go_sem,t8,t10,t1,G,s.rows,j,C,List.length_map,Int.toNat_natCast,Int.natCast_nonneg]
  refine zd c ?_
  rintro _ X ⟨rfl,U⟩
  subst U
  simp only[go_sem]
  refine ways (λu=>?_) (λu=>?_)
  ·rw[u] at a
   simp only[if_true] at a
   rcases z with ⟨t5,t⟩ | ⟨id,st,A,t5,H⟩
   ·simp only[go_sem,t5,t10]
    refine ⟨l.length - (k+1),by omega,k+1,fin,b.app (zg rfl (zg rfl (zj rfl))),.inr ⟨_,_,by have:=b.len;omega,rfl,?_⟩,t1,t8,t9,zw (by omega) rfl,rfl⟩
    rw[a,List.map_append,t,zl rfl]
    rfl
   ·have I:(((xv p (l.take k)).map zz).length+1)*17<=140737488355328:=by
     have:=XO p (l.take k)
     rw[List.length_take] at this
     rw[List.length_map];omega
    have K:∀M,(h'++M)[id]? =some (.row 143 2 ((xv p (l.take k)).map zz) st):=λM=>zb H
    simp only[go_sem,t5,t10,K,I]
    refine ⟨l.length - (k+1),by omega,k+1,fin,(b.app (zg rfl (zj rfl))).set A rfl,.inr ⟨id,st+1,A,rfl,?_⟩,t1,t8,t9,zw (by omega) rfl,rfl⟩
    rw[a,List.map_append]
    exact zh (K _)
  ·have u:p y=false:=by simpa using u
   rw[u] at a
   simp only[Bool.false_eq_true,if_false] at a
   simp only[go_sem,t10]
   exact ⟨l.length - (k+1),by omega,k+1,fin,b.app (zj rfl),by rw[a];exact z.app _,t1,t8,t9,zw (by omega) rfl,rfl⟩
 ·have O:=jk e
  have D:k=l.length:=by omega
  subst D
  rw[List.take_length] at z
  have S:=XO p l
  rcases z with ⟨t5,t⟩ | ⟨id,st,A,t5,H⟩
  ·have t:xv p l=[]:=by simpa using t
   simp only[go_sem,t5]
   refine zd (Xfa _) ?_
   rintro _ E ⟨rfl,P⟩
   subst P
   simp only[go_sem]
   refine zd (c65 _ (.v (.slice none 0 0)) [] ⟨rfl,λh=>absurd rfl h⟩ (by simp)) ?_
   rintro r E ⟨L2,rfl,n1,n2⟩
   simp only[go_sem]
   obtain ⟨L,rfl,q⟩:=b
   exact ⟨r,by simp only[go_sem],.inl ⟨L++L2,by simp,q.app n1,by rw[t];exact n2.of rfl⟩⟩
  ·simp only[go_sem,t5]
   refine zd (c96 _ id st _ H) ?_
   rintro _ E ⟨rfl,rfl⟩
   simp only[go_sem]
   refine zd (c65 _ (.sl 2 ((xv p l).map zz)) (xv p l) ⟨rfl,λ_=>rfl⟩ (by omega)) ?_
   rintro r E ⟨L2,rfl,n1,n2⟩
   simp only[go_sem]
   have b:=b.set (o:= .gone) A rfl
   obtain ⟨L,N,q⟩:=b
   exact ⟨r,by simp only[go_sem],.inl ⟨L++L2,by rw[N];simp,q.app n1,n2.of N⟩⟩
def zG (l:List Seg):List Spn:=zt (l.map spS)
def xi (l:List Seg) (k:Int):List Spn:=zt ((l.filter λg=>g.kind==k).map spS)
theorem c31 (h:List Ob) (x:AV) (l:List Seg) (b:SlOf h x 5 (l.map xf)) (c:l.length<1048576):
  ACalls Tryz.prog 23 [x] h λr h'=>∃L,h'=h++L/\NoRes L/\New h 2 r ((zG l).map zz) L:=by
 have hex:∃r h',(∃L,h'=h++L/\NoRes L/\New h 2 r ((zG l).map zz) L)/\ResK h h':=
  ⟨.sl 2 _,_,⟨[],rfl,jN,λ_ _=>⟨rfl,λ_=>rfl⟩⟩,zW⟩
 have a:xv (λ_=>true) l=l.map spS:=by unfold xv;rw[XG λ_ _=>rfl]
 refine zf Tryz.f23 [.tmp 2] 5 rfl rfl rfl rfl rfl rfl (by decide) (hex) λB=>?_
 simp only[go_sem]
 refine zd (c66 h x 72 [] l (λ_=>true) b c λg _ L=>c67 g _) ?_
 rintro r d ⟨L2,rfl,n1,n2⟩
 simp only[go_sem]
 exact ⟨r,by simp only[go_sem],.inl ⟨L2,rfl,n1,by rw[a] at n2;exact n2⟩⟩
theorem c32 (h:List Ob) (x:AV) (l:List Seg) (k:Int) (a:SlOf h x 5 (l.map xf)) (b:l.length<1048576):
  ACalls Tryz.prog 243 [x,i64 k] h λr h'=>∃L,h'=h++L/\NoRes L/\New h 2 r ((xi l k).map zz) L:=by
 have hex:∃r h',(∃L,h'=h++L/\NoRes L/\New h 2 r ((xi l k).map zz) L)/\ResK h h':=
  ⟨.sl 2 _,_,⟨[],rfl,jN,λ_ _=>⟨rfl,λ_=>rfl⟩⟩,zW⟩
 refine zf Tryz.f243 [.tmp 4] 8 rfl rfl rfl rfl rfl rfl (by decide) (hex) λB=>?_
 simp only[go_sem]
 refine zd (c66 _ x 285 [.ptr h.length 0] l (λg=>g.kind==k) (a.app _) b λg _ L=>c68 _ _ g k (by rw[List.append_assoc,zm rfl];rfl)) ?_
 rintro r c ⟨L2,rfl,n1,n2⟩
 simp only[go_sem]
 exact ⟨r,by simp only[go_sem],.inl ⟨_,rfl,zg rfl n1,n2.of rfl⟩⟩
theorem zPa (l:List Spn) (x:Spn):qf (l++[x])=qf l+(x.to_ - x.from_):=by simp[qf]
theorem XP {l:List Spn} (a:∀s∈l,0<=s.from_/\s.from_<s.to_/\s.to_<=32054400):0<=qf l/\qf l<=32054400*l.length:=by
 induction l with
 | nil=>simp[qf]
 | cons x l b=>
   have:=b λs h=>a s (.tail _ h)
   have:=a x (.head _)
   simp only[qf,List.map_cons,List.sum_cons,List.length_cons] at*
   omega
theorem c30 (h:List Ob) (x:AV) (l:List Spn) (C:SlOf h x 2 (l.map zz)) (G:l.length<1048576):
  ACalls Tryz.prog 22 [x] h λr h'=>r=i64 (qf (zt l))/\h'=h:=by
 have d:= @jC l
 have j:=zq l
 obtain ⟨n,v⟩:∃n,n=zt l:=⟨_,rfl⟩
 rw[<-v] at d j
 refine zf Tryz.f22 [.tmp 2] 21 rfl rfl rfl rfl rfl rfl (by decide) (⟨_,_,⟨rfl,rfl⟩,.refl⟩) λB=>?_
 simp only[go_sem]
 refine zd (c65 _ x l C (by omega)) ?_
 rintro r H ⟨L2,rfl,n1,n2⟩
 rw[<-v] at n2⊢
 have w:SlOf (h++L2) r 2 (n.map zz):=n2 h rfl
 simp only[go_sem,w.rows,List.length_map]
 refine zk (by decide) (λm T h'=>∃k:Nat,k<=n.length/\Pre (h++L2) h'/\T 2=i64 (qf (n.take k))/\T 6=r/\T 7=i64 n.length/\T 8=i64 k/\m=n.length - k) n.length
  ⟨0,by omega,Pre.refl,by (simp only[go_sem]<;>rfl),by simp only[go_sem],by simp only[go_sem],by (simp only[go_sem]<;>rfl),rfl⟩ ?_
 rintro m T h' ⟨k,I,a,t2,t6,z,t8,rfl⟩
 simp only[go_sem,z,t8]
 refine ways (λe=>?_) (λe=>?_)
 ·have b:=dlt e
  have g:=a.sl w
  have u:=g.at (i:=k) (by simpa using b)
  have c:(n.map zz)[k]? =some (zz n[k]):=by rw[List.getElem?_map,List.getElem?_eq_getElem b];rfl
  have q:(k:Int)<n.length:=by omega
  have f:=zPa (n.take k) n[k]
  rw[List.take_append_getElem b] at f
  have p:=XP (l:=n.take k) λs h=>d s (List.mem_of_mem_take h)
  have o:=d _ (List.getElem_mem b)
  rw[List.length_take] at p
  obtain ⟨y,E⟩:∃y,y=n[k]:=⟨_,rfl⟩
  rw[<-E] at c f o
  have F:List.length (zz y)=2:=rfl
  simp only[go_sem,t2,t6,t8,u,g.rows,c,q,List.length_map,Int.toNat_natCast,Int.natCast_nonneg]
  refine ⟨n.length - (k+1),by omega,k+1,by omega,a.app (zj rfl),?_,z,zw (by omega) rfl,rfl⟩
  rw[f]
  show i64 (wr (qf (n.take k)+wr (y.to_ - y.from_)))=_
  rw[zF (n:=y.to_ - y.from_) (by unfold Fit;omega),zF (by unfold Fit;omega)]
 ·have A:=jk e
  have t:k=n.length:=by omega
  subst t
  rw[List.take_length] at t2
  obtain ⟨J,rfl,D⟩:=a
  rw[List.append_assoc]
  simp only[go_sem,t2]
  (first | refine zc ?_ | refine ze ?_ (by rfl))<;>(simp only[go_sem]<;>try rfl)
set_option maxRecDepth 100000
attribute [go_sem] v4a v5a xPa jla xQa y3a
def s0:Setup:=⟨1,[],(1,1),[((1,1),(1,1))],[(1,1)],[(1,1)],0,900,3600,0,0,0,0,0,0,0,0,[1],0,0,0,[]⟩
def f0:List Flg:=[⟨4,3⟩,⟨5,1⟩]
def a0 (n:Nat):SA:=⟨.v (.slice none 0 0),.tl (n+1) 0,.tl (n+2) 0,.tl (n+3) 0,.tl (n+4) 0,.v (.slice none 0 0)⟩
theorem yo {h:List Ob} {id ty e st:Nat} {xs:List (List AV)} (k:h[id]? =some (.row ty e xs st)):SlOf h (.tl id st) e xs:=⟨by rw[zP,k,xK,if_pos rfl],λ_=>by rw[qR,k,vo]⟩
theorem z9a {h:List Ob} {e:Nat}:SlOf h (.v (.slice none 0 0)) e []:=⟨rfl,λh=>absurd rfl h⟩
end Go.Proofs.YtigdlmpjijhpaaaGreat.Ax
namespace Go.Proofs.YtigdlmpjijhpaaaGreat.Ax
open Go Go.RowKit Go.ChangeShapes Go.WideShapes
section
variable {H:Type} {enc:TypeId × Value->H} {P:Program} {w:World} {base:Nat} {held:Bool}
def Vs (P:Program):Nat->TypeId->Bool
 | 0,_=>false
 | n+1,t=>match P.underlying t with
   | some (.int .i64)=>true
   | some (.struct a)=>(List.range (P.cellsOf t)).all λk=>a.toList.any λf=>Vs P n f.type && (decide (f.offset<=k) && decide (k<f.offset+P.cellsOf f.type))
   | _=>false
theorem Je {spare:Nat->Bool}:∀(n:Nat) {t:TypeId} {a:Nat} {o:List Value} {x:DataW H × List MemPlace},Vs P n t=true->DataW.trod enc P w base spare held a t o=some x->∀v∈o,∃z,v= .int .i64 z/\(Lit.int .i64 z).wf=true
 | 0,_,_,_,_,h,_=>by cases h
 | n+1,t,a,o,x,h,p=>by
   unfold Vs at h
   split at h
   ·rename_i l
    obtain ⟨z,rfl,_,s⟩:=DataW.trod_int l p
    intro v d
    simp at d
    exact ⟨z,d,s⟩
   ·rename_i b l
    obtain ⟨xs,n',_,_,D,q,B⟩:=DataW.trod_struct l p
    intro v d
    obtain ⟨k,y,rfl⟩:=List.mem_iff_getElem.1 d
    have i:=List.all_eq_true.1 h k (List.mem_range.2 (by omega))
    obtain ⟨f,g,c⟩:=List.any_eq_true.1 i
    simp only[Bool.and_eq_true,decide_eq_true_eq] at c
    obtain ⟨m,C,u⟩:=c
    obtain ⟨j,A,rfl⟩:=List.mem_iff_getElem.1 g
    have e:j<b.size:=by simpa using A
    have:=B j _ (by rw[Array.getElem?_eq_getElem e])
    rw[List.getElem?_eq_getElem (by omega)] at this
    refine Je n m this _ ?_
    rw[List.mem_iff_getElem?]
    refine ⟨k - b.toList[j].offset,?_⟩
    have r:b[j]=b.toList[j]:=by simp
    rw[r,List.getElem?_take,if_pos (by omega),List.getElem?_drop,show b.toList[j].offset+(k - b.toList[j].offset)=k by omega,List.getElem?_eq_getElem y]
   ·cases h
abbrev gN:Gh:=⟨λ_=>0,λ_=>undef⟩
abbrev c0 (w:World):Ctx:=ctx w gN []
theorem rd0 {a:Addr} {u:Value} (h:w.cell? a=some u):(c0 w).rd a u:=⟨λ⟨i,o,b,_⟩=>(by cases b),h⟩
theorem Vt {c:Ctx} {A:Addr}:∀(a:List Int) (k:Nat),(∀j z,a[j]? =some z->c.rd (A.add (k+j)) (.int .i64 z))->ACells c (some A) k (a.map i64)
 | [],_,_=>trivial
 | z::a,k,h=>by
   refine ⟨⟨A,_,rfl,by simpa using h 0 z rfl,rfl⟩,Vt a (k+1) λj b d=>?_⟩
   have:=h (j+1) b (by simpa using d)
   rwa[show k+(j+1)=k+1+j by omega] at this
theorem YU {c:Ctx} {A:Addr} {e:Nat}:∀(rows:List (List Int)) (i:Nat),(∀r∈rows,r.length=e)->(∀j r,rows[j]? =some r->∀k z,r[k]? =some z->c.rd (A.add ((i+j)*e+k)) (.int .i64 z))->ARows c (some A) e i (rows.map (·.map i64))
 | [],_,_,_=>trivial
 | r::rows,i,f,d=>by
   refine ⟨⟨by simpa using f r (.head _),Vt r (i*e) λk z b=>by simpa using d 0 r rfl k z b⟩,YU rows (i+1) (λq a=>f q (.tail _ a)) λj q a k z b=>?_⟩
   have:=d (j+1) q (by simpa using a) k z b
   rwa[show i+(j+1)=i+1+j by omega] at this
def Jf (w:World) (e:Nat) (v:Value) (a:AV) (rows:List (List Int)):Prop:=
 AR (c0 w) a v/\SlOf [] a e (rows.map (·.map i64))/\∀r∈rows,r.length=e/\∀z∈r,(Lit.int .i64 z).wf=true
theorem Vu {t e:TypeId} {n A:Nat} {v:Value} {x:DataW H × List MemPlace} (N:P.underlying t=some (.slice e)) (G:Vs P n e=true) (h:DataW.trod enc P w base (λ_=>true) held A t [v]=some x):
  ∃a rows,Jf w (P.cellsOf e) v a rows/\rows.length<=maxLen:=by
 rcases Go.Deep.open_slice N h with ⟨b,_⟩ | ⟨a,len,cap,m,n',D,R,b,S,M,Q,F,rfl,K⟩
 ·injection b with b _
  subst b
  exact ⟨.v (.slice none 0 0),[],⟨rfl,⟨rfl,λh=>absurd rfl h⟩,λ_ h=>by cases h⟩,Nat.zero_le _⟩
 ·injection b with b _
  subst b
  have each:∀i,i<len->∃r:List Int,r.length=P.cellsOf e/\(∀z∈r,(Lit.int .i64 z).wf=true)/\∀k z,r[k]? =some z->w.cell? (a.add (i*P.cellsOf e+k))=some (.int .i64 z):=by
   intro i p
   obtain ⟨d,L,O⟩:=K i (by rw[F];simp;omega)
   obtain ⟨_,l,q⟩:=World.cells?_some L
   have B:=Je n G O
   have key:∀k,∃z:Int,k<d.length->d[k]? =some (.int .i64 z)/\(Lit.int .i64 z).wf=true:=λk=>by
    by_cases c:k<d.length
    ·obtain ⟨z,E,I⟩:=B d[k] (List.getElem_mem c)
     exact ⟨z,λ_=>⟨by rw[List.getElem?_eq_getElem c,E],I⟩⟩
    ·exact ⟨0,λh=>absurd h c⟩
   obtain ⟨f,s⟩:=Classical.axiomOfChoice key
   refine ⟨(List.range (P.cellsOf e)).map f,by simp,λz C=>?_,λk z c=>?_⟩
   ·obtain ⟨k,c,rfl⟩:=List.mem_map.1 C
    exact (s k (by have:=List.mem_range.1 c;omega)).2
   ·have y:k<P.cellsOf e:=by have:=(List.getElem?_eq_some_iff.1 c).1;simpa using this
    have C:f k=z:=by simpa [y] using c
    rw[<-Addr.add_add,q k y,(s k (by omega)).1,C]
  have:∃f:Nat->List Int,∀i,i<len->(f i).length=P.cellsOf e/\(∀z∈f i,(Lit.int .i64 z).wf=true)/\∀k z,(f i)[k]? =some z->w.cell? (a.add (i*P.cellsOf e+k))=some (.int .i64 z):=Go.Deep.choose_lt each
  obtain ⟨f,s⟩:=this
  have l:((List.range len).map f).length=len:=by simp
  have g:∀r∈(List.range len).map f,∃i,i<len/\f i=r:=λr o=>by
   obtain ⟨i,p,e⟩:=List.mem_map.1 o
   exact ⟨i,List.mem_range.1 p,e⟩
  refine ⟨.sl (P.cellsOf e) (((List.range len).map f).map (·.map i64)),(List.range len).map f,⟨⟨some a,cap,by simp,by simpa using M,?_⟩,⟨rfl,λ_=>rfl⟩,λr o=>?_⟩,by rw[l];omega⟩
  ·refine YU _ 0 (λr o=>?_) λj r J k z c=>?_
   ·obtain ⟨i,p,rfl⟩:=g r o
    exact (s i p).1
   ·have u:j<len:=by have:=(List.getElem?_eq_some_iff.1 J).1;simpa using this
    have o:f j=r:=by simpa [u] using J
    rw[Nat.zero_add]
    exact rd0 ((s j u).2.2 k z (by rw[o];exact c))
  ·obtain ⟨i,p,rfl⟩:=g r o
   exact ⟨(s i p).1,(s i p).2.1⟩
theorem vVa {t e:TypeId} {n b:Nat} {v:Value} {x:DataW H × List MemPlace} (d:P.underlying t=some (.slice e)) (c:Vs P n e=true) (h:DataW.trod enc P w base (λ_=>true) held b t [v]=some x):
  ∃a rows,Jf w (P.cellsOf e) v a rows:=by
 obtain ⟨a,rows,k,_⟩:=Vu d c h
 exact ⟨a,rows,k⟩
end
theorem Wd {z:Int} (h:(Lit.int .i64 z).wf=true):Fit z:=by
 simp[Lit.wf,IntKind.min,IntKind.max,IntKind.bits,IntKind.signed] at h
 unfold Fit
 omega
def ve (r:List Int) (k:Nat):Int:=r.getD k 0
def yUa (r:List Int):Ev:=⟨ve r 0,ve r 1,ve r 2,ve r 3,ve r 4,ve r 5,ve r 6,ve r 7,ve r 8,ve r 9,ve r 10⟩
theorem ZYa:∀ {r:List Int},r.length=11->r.map i64=evC (yUa r)
 | [_,_,_,_,_,_,_,_,_,_,_],_=>rfl
def Z5 (r:List Int):zy:=(ve r 0,ve r 1)
theorem We:∀ {r:List Int},r.length=2->r.map i64=qz (Z5 r)
 | [_,_],_=>rfl
def qoa (r:List Int):Way:=(ve r 0,ve r 1,ve r 2)
theorem yna:∀ {r:List Int},r.length=3->r.map i64=QM (qoa r)
 | [_,_,_],_=>rfl
def qpa (r:List Int):Elt:=((ve r 0,ve r 1),(ve r 2,ve r 3))
theorem yoa:∀ {r:List Int},r.length=4->r.map i64=QN (qpa r)
 | [_,_,_,_],_=>rfl
theorem ypa:∀ {r:List Int},r.length=1->r.map i64=zJ (ve r 0)
 | [_],_=>rfl
theorem QG {r:List Int} (h:∀z∈r,(Lit.int .i64 z).wf=true) (k:Nat):Fit (ve r k):=by
 unfold ve
 rw[List.getD_eq_getElem?_getD]
 by_cases a:k<r.length
 ·rw[List.getElem?_eq_getElem a];exact Wd (h _ (List.getElem_mem a))
 ·rw[List.getElem?_eq_none (by omega)];simp[Fit]
theorem yu {α:Type} {f:List Int->α} {g:α->List AV} {e:Nat} (a:∀ {r:List Int},r.length=e->r.map i64=g (f r)) {rows:List (List Int)} (h:∀r∈rows,r.length=e):rows.map (·.map i64)=(rows.map f).map g:=by
 rw[List.map_map]
 exact List.map_congr_left λr b=>a (h r b)
structure SFit0 (s:Setup):Prop where
 places:Fit s.places
 pace:qa s.pace
 elements:∀e∈s.elements,qa e.1/\qa e.2
 classes:∀p∈s.classes,qa p
 gears:∀p∈s.gears,qa p
 tiers:∀t∈s.tiers,qa t
 nw:s.ways.length<9223372036854775808
 ne:s.elements.length<9223372036854775808
 nc:s.classes.length<9223372036854775808
 ng:s.gears.length<9223372036854775808
 nr:s.rates.length<9223372036854775808
 nt:s.tiers.length<9223372036854775808
theorem SFit0.few {s:Setup} (f:SFit0 s) (h:zVa s=true):SFit s:=by
 simp only[zVa,decide_eq_true_eq] at h
 obtain ⟨e,c,a,d,b,g⟩:=h
 exact ⟨f.places,f.pace,f.elements,f.classes,f.gears,f.tiers,by omega,by omega,by omega,by omega,by omega,by omega⟩
def InEvs (w:World) (v:Value):Prop:=∃(x:AV) (l:List Ev),AR (c0 w) x v/\SlOf [] x 11 (l.map evC)
def InSet (w:World) (v:Value):Prop:=∃(s:Setup) (a:SA),AR (c0 w) (qj s a) v/\SIn [] s a/\SFit0 s
section
variable {H:Type} {enc:TypeId × Value->H} {w:World} {base:Nat} {held:Bool}
theorem evs_in {b:Nat} {v:Value} {x:DataW H × List MemPlace} (h:DataW.trod enc Tryz.prog w base (λ_=>true) held b 31 [v]=some x):InEvs w v:=by
 obtain ⟨a,rows,j,c,d⟩:=vVa Tryz.underlying31 (n:=2) (by kernel_rfl) h
 have e:Tryz.prog.cellsOf 75=11:=by kernel_rfl
 rw[e] at c d
 rw[yu (f:=yUa) (g:=evC) ZYa λr i=>(d r i).1] at c
 exact ⟨a,_,j,c⟩
theorem Vv {t e:TypeId} {n b:Nat} {v:Value} {y:Option (DataW H × List MemPlace)} (d:Tryz.prog.underlying t=some (.slice e)) (c:Vs Tryz.prog n e=true) (h:DataW.trod enc Tryz.prog w base (λ_=>true) held b t [v]=y) (f:y.isSome=true):∃a rows,Jf w (Tryz.prog.cellsOf e) v a rows/\rows.length<=9223372036854775807:=by
 cases y with
 | none=>cases f
 | some y=>exact Vu d c h
theorem xI {a:Nat} {v:Value} {y:Option (DataW H × List MemPlace)} (h:DataW.trod enc Tryz.prog w base (λ_=>true) held a 3 [v]=y) (c:y.isSome=true):∃z,v= .int .i64 z/\Fit z:=by
 cases y with
 | none=>cases c
 | some y=>
   obtain ⟨z,b,_,d⟩:=DataW.trod_int Tryz.underlying3 h
   injection b with b _
   exact ⟨z,b,Wd d⟩
theorem ZZa {a:Nat} {v0 v1:Value} {y:Option (DataW H × List MemPlace)} (h:DataW.trod enc Tryz.prog w base (λ_=>true) held a 24 [v0,v1]=y) (f:y.isSome=true):∃z0 b,v0= .int .i64 z0/\v1= .int .i64 b/\Fit z0/\Fit b:=by
 cases y with
 | none=>cases f
 | some y=>
   have:=Je (n:=2) (by kernel_rfl) h
   obtain ⟨z0,h0,e⟩:=this v0 (by simp)
   obtain ⟨b,d,c⟩:=this v1 (by simp)
   exact ⟨z0,b,h0,d,Wd e,Wd c⟩
set_option maxHeartbeats 1000000 in
set_option maxRecDepth 100000 in
theorem setup_in {r:Reach} {b0:Nat} {v:Value} {d:DataW H} {p:List MemPlace} (hv:Value.okWide Tryz.prog w r b0 30 v) (h:DataW.Trod enc Tryz.prog w base (λ_=>true) held 30 v d p):InSet w v:=by
 simp only[Value.okWide,Tryz.underlying30] at hv
 obtain ⟨K,rfl,_,_⟩:=hv
 obtain ⟨A,m⟩:=h
 have m:DataW.trod enc Tryz.prog w base (λ_=>true) held A 30 K.toList=some (d,p):=by simpa [Value.cells] using m
 obtain ⟨xs,n,_,_,J,C,a⟩:=DataW.trod_struct Tryz.underlying30 m
 have I:Tryz.prog.cellsOf 30=23:=by kernel_rfl
 have k3:Tryz.prog.cellsOf 3=1:=by kernel_rfl
 have W:Tryz.prog.cellsOf 22=1:=by kernel_rfl
 have l:Tryz.prog.cellsOf 24=2:=by kernel_rfl
 have T:Tryz.prog.cellsOf 25=1:=by kernel_rfl
 have X:Tryz.prog.cellsOf 26=1:=by kernel_rfl
 have S:Tryz.prog.cellsOf 27=1:=by kernel_rfl
 have U:Tryz.prog.cellsOf 28=1:=by kernel_rfl
 have y:Tryz.prog.cellsOf 225=3:=by kernel_rfl
 have P:Tryz.prog.cellsOf 183=4:=by kernel_rfl
 have ε:Tryz.prog.cellsOf 185=2:=by kernel_rfl
 rw[I] at J
 have b:∀j,j<22->(xs[j]?).isSome=true:=λj hj=>by
  have:j<xs.length:=by rw[C];exact hj
  simp[this]
 generalize β:K.toList=L at J a
 match L,J with
 | [v0,v1,v2,v3,v4,v5,v6,v7,v8,v9,v10,v11,v12,v13,v14,v15,v16,χ,v18,v19,v20,v21,v22],_=>
   have f0:=a 0 ⟨"Places",3,0,false, "", "",0⟩ rfl
   have f1:=a 1 ⟨"Ways",22,1,false, "", "",8⟩ rfl
   have f2:=a 2 ⟨"Pace",24,2,false, "", "",32⟩ rfl
   have f3:=a 3 ⟨"Elements",25,4,false, "", "",48⟩ rfl
   have f4:=a 4 ⟨"Classes",26,5,false, "", "",72⟩ rfl
   have f5:=a 5 ⟨"Gears",26,6,false, "", "",96⟩ rfl
   have f6:=a 6 ⟨"Allow",3,7,false, "", "",120⟩ rfl
   have f7:=a 7 ⟨"Unit",3,8,false, "", "",128⟩ rfl
   have f8:=a 8 ⟨"Cap",3,9,false, "", "",136⟩ rfl
   have f9:=a 9 ⟨"PaidBreak",3,10,false, "", "",144⟩ rfl
   have x:=a 10 ⟨"AutoAfter",3,11,false, "", "",152⟩ rfl
   have o:=a 11 ⟨"AutoBreak",3,12,false, "", "",160⟩ rfl
   have z:=a 12 ⟨"DayReg",3,13,false, "", "",168⟩ rfl
   have D:=a 13 ⟨"DayOver",3,14,false, "", "",176⟩ rfl
   have f14:=a 14 ⟨"WeekReg",3,15,false, "", "",184⟩ rfl
   have f15:=a 15 ⟨"NightFrom",3,16,false, "", "",192⟩ rfl
   have u:=a 16 ⟨"NightTo",3,17,false, "", "",200⟩ rfl
   have s:=a 17 ⟨"Rates",27,18,false, "", "",208⟩ rfl
   have t:=a 18 ⟨"Diff",3,19,false, "", "",232⟩ rfl
   have q:=a 19 ⟨"Least",3,20,false, "", "",240⟩ rfl
   have f20:=a 20 ⟨"Fault",3,21,false, "", "",248⟩ rfl
   have f21:=a 21 ⟨"Tiers",28,22,false, "", "",256⟩ rfl
   simp only[List.drop_succ_cons,List.drop_zero,List.take_succ_cons,List.take_zero,List.take_nil,k3,W,l,T,X,S,U] at f0 f1 f2 f3 f4 f5 f6 f7 f8 f9 x o z D f14 f15 u s t q f20 f21
   obtain ⟨z0,rfl,g0⟩:=xI f0 (b 0 (by omega))
   obtain ⟨a1,r1,⟨m1,n1,o1⟩,q1⟩:=Vv Tryz.underlying22 (n:=3) (by kernel_rfl) f1 (b 1 (by omega))
   rw[y] at n1 o1
   obtain ⟨z2,z3,rfl,rfl,g2,g3⟩:=ZZa f2 (b 2 (by omega))
   obtain ⟨a4,r4,⟨m4,n4,Z⟩,q4⟩:=Vv Tryz.underlying25 (n:=3) (by kernel_rfl) f3 (b 3 (by omega))
   rw[P] at n4 Z
   obtain ⟨a5,r5,⟨m5,n5,G⟩,q5⟩:=Vv Tryz.underlying26 (n:=3) (by kernel_rfl) f4 (b 4 (by omega))
   rw[l] at n5 G
   obtain ⟨a6,r6,⟨m6,Q,o6⟩,q6⟩:=Vv Tryz.underlying26 (n:=3) (by kernel_rfl) f5 (b 5 (by omega))
   rw[l] at Q o6
   obtain ⟨z7,rfl,g7⟩:=xI f6 (b 6 (by omega))
   obtain ⟨z8,rfl,g8⟩:=xI f7 (b 7 (by omega))
   obtain ⟨z9,rfl,g9⟩:=xI f8 (b 8 (by omega))
   obtain ⟨N,rfl,g10⟩:=xI f9 (b 9 (by omega))
   obtain ⟨θ,rfl,g11⟩:=xI x (b 10 (by omega))
   obtain ⟨ζ,rfl,g12⟩:=xI o (b 11 (by omega))
   obtain ⟨M,rfl,g13⟩:=xI z (b 12 (by omega))
   obtain ⟨α,rfl,g14⟩:=xI D (b 13 (by omega))
   obtain ⟨Y,rfl,g15⟩:=xI f14 (b 14 (by omega))
   obtain ⟨V,rfl,g16⟩:=xI f15 (b 15 (by omega))
   obtain ⟨κ,rfl,g17⟩:=xI u (b 16 (by omega))
   obtain ⟨R,γ,⟨ι,n18,B⟩,q18⟩:=Vv Tryz.underlying27 (n:=3) (by kernel_rfl) s (b 17 (by omega))
   rw[k3] at n18 B
   obtain ⟨O,rfl,g19⟩:=xI t (b 18 (by omega))
   obtain ⟨δ,rfl,g20⟩:=xI q (b 19 (by omega))
   obtain ⟨E,rfl,g21⟩:=xI f20 (b 20 (by omega))
   obtain ⟨a22,μ,⟨F,n22,k⟩,q22⟩:=Vv Tryz.underlying28 (n:=3) (by kernel_rfl) f21 (b 21 (by omega))
   rw[ε] at n22 k
   rw[yu (f:=qoa) (g:=QM) yna λr c=>(o1 r c).1] at n1
   rw[yu (f:=qpa) (g:=QN) yoa λr c=>(Z r c).1] at n4
   rw[yu (f:=Z5) (g:=qz) We λr c=>(G r c).1] at n5
   rw[yu (f:=Z5) (g:=qz) We λr c=>(o6 r c).1] at Q
   rw[yu (f:=(λr=>ve r 0)) (g:=zJ) ypa λr c=>(B r c).1] at n18
   rw[yu (f:=Z5) (g:=qz) We λr c=>(k r c).1] at n22
   refine ⟨⟨z0,r1.map qoa,(z2,z3),r4.map qpa,r5.map Z5,r6.map Z5,z7,z8,z9,N,θ,ζ,M,α,Y,V,κ,γ.map (λr=>ve r 0),O,δ,E,μ.map Z5⟩,⟨a1,a4,a5,a6,R,a22⟩,⟨K,rfl,?_⟩,⟨n1,n4,n5,Q,n18,n22⟩,⟨g0,⟨g2,g3⟩,?_,?_,?_,?_,by rw[List.length_map];omega,by rw[List.length_map];omega,by rw[List.length_map];omega,by rw[List.length_map];omega,by rw[List.length_map];omega,by rw[List.length_map];omega⟩⟩
   ·rw[β]
    exact ⟨_,_,rfl,rfl,⟨_,_,rfl,m1,⟨_,_,rfl,rfl,⟨_,_,rfl,rfl,⟨_,_,rfl,m4,⟨_,_,rfl,m5,⟨_,_,rfl,m6,⟨_,_,rfl,rfl,⟨_,_,rfl,rfl,⟨_,_,rfl,rfl,⟨_,_,rfl,rfl,⟨_,_,rfl,rfl,⟨_,_,rfl,rfl,⟨_,_,rfl,rfl,⟨_,_,rfl,rfl,⟨_,_,rfl,rfl,⟨_,_,rfl,rfl,⟨_,_,rfl,rfl,⟨_,_,rfl,ι,⟨_,_,rfl,rfl,⟨_,_,rfl,rfl,⟨_,_,rfl,rfl,⟨_,_,rfl,F,rfl⟩⟩⟩⟩⟩⟩⟩⟩⟩⟩⟩⟩⟩⟩⟩⟩⟩⟩⟩⟩⟩⟩⟩
   ·intro e i
    obtain ⟨r,c,rfl⟩:=List.mem_map.1 i
    have:=QG (Z r c).2
    exact ⟨⟨this 0,this 1⟩,this 2,this 3⟩
   ·intro e i
    obtain ⟨r,c,rfl⟩:=List.mem_map.1 i
    have:=QG (G r c).2
    exact ⟨this 0,this 1⟩
   ·intro e i
    obtain ⟨r,c,rfl⟩:=List.mem_map.1 i
    have:=QG (o6 r c).2
    exact ⟨this 0,this 1⟩
   ·intro e i
    obtain ⟨r,c,rfl⟩:=List.mem_map.1 i
    have:=QG (k r c).2
    exact ⟨this 0,this 1⟩
end
theorem run_law {f:FuncId} {args:List AV} {vs:List Value} {w:World} (c:ACalls Tryz.prog f args [] λr h'=>r=bl true/\h'=[]) (l:ARs (c0 w) args vs):Calls Tryz.prog f vs.toArray w λe w'=>e= .returned (.bool true)/\Below w.heap.size w w':=by
 have h:fill (λ_=> .res) ([]:List Ob)=[]:=KG
 have d:HOk w.heap.size w gN []:=⟨λi o g=>(by cases g),λi j o p b _ g=>(by cases g)⟩
 refine (c.2.2 (λ_=> .res) (λ_ _=>rfl) w.heap.size w gN vs (by rw[h];exact d) (Nat.le_refl _) (by rw[h];exact l)).mono ?_
 rintro e w' ⟨v,r,h',g',rfl,⟨rfl,rfl⟩,_,k,a⟩
 have a:v= .bool true:=a
 subst a
 exact ⟨rfl,k.below⟩
end Go.Proofs.YtigdlmpjijhpaaaGreat.Ax
