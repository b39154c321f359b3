/-
  Joined.
-/
import Derived.Test.YtfmldcilgbbimaaGreatK22
import Derived.Test.YtfmldcilgbbimaaGreatK21
import Derived.Test.YtfmldcilgbbimaaGreatK14
import Derived.Deep.SlicePairs
import Derived.WideShapes
import Derived.ChangeShapes
import Derived.Test.YtfmldcilgbbimaaGreatK20
set_option linter.unusedSimpArgs false
set_option linter.unusedVariables false
namespace Go.Proofs.YtfmldcilgbbimaaGreat.Ax
open Go Go.Proofs
set_option maxRecDepth 100000
attribute [go_sem] yba yfa
theorem New.of {h h':List Ob} {e:Nat} {x:AV} {rows:List (List AV)} {L L2:List Ob} (c:h'=h++L) (k:New h' e x rows L2):New h e x rows (L++L2):=λa b=>by
 have:=k (a++L) (by rw[c];simp[b])
 rwa[List.append_assoc] at this
theorem NoRes.app {L M:List Ob} (a:NoRes L) (b:NoRes M):NoRes (L++M):=λo c=>by
 rcases List.mem_append.1 c with h | h
 ·exact a o h
 ·exact b o h
theorem c67 (g:Seg):qX Tryz.prog 67 [.ag (j7 g)] (bl true):=λh=>by
 refine zf Tryz.f67 [.tmp 2] 3 rfl rfl rfl rfl rfl rfl (by decide) (⟨_,_,⟨rfl,rfl⟩,.refl⟩) λB=>?_
 simp only[go_sem]
 (first | refine zc ?_ | refine ze ?_ (by rfl))<;>(simp only[go_sem]<;>try rfl)
theorem c68 (h:List Ob) (i:Nat) (g:Seg) (k:Int) (a:h[i]? =some (.box 3 [i64 k])):ACalls Tryz.prog 263 [.ag (j7 g),.ptr i 0] h λr h'=>r=bl (g.kind==k)/\h'=h:=by
 have b:∀M,(h++M)[i]? =some (.box 3 [i64 k]):=λM=>zb a
 refine zf Tryz.f263 [.tmp 3] 8 rfl rfl rfl rfl rfl rfl (by decide) (⟨_,_,⟨rfl,rfl⟩,.refl⟩) λB=>?_
 simp only[go_sem,b]
 (first | refine zc ?_ | refine ze ?_ (by rfl))<;>(simp only[go_sem]<;>try rfl)
def xm (p:Seg->Bool) (l:List Seg):List Spn:=(l.filter p).map spS
theorem W0 (p:Seg->Bool) (l:List Seg) (g:Seg):xm p (l++[g])=if p g then xm p l++[spS g] else xm p l:=by
 unfold xm
 rw[List.filter_append,List.map_append]
 cases h:p g<;>simp[h]
theorem XJ (p:Seg->Bool) (l:List Seg):(xm p l).length<=l.length:=by
 unfold xm
 rw[List.length_map]
 exact List.length_filter_le p l
set_option maxHeartbeats 1000000 in
theorem c66 (h:List Ob) (x:AV) (f:FuncId) (C:List AV) (l:List Seg) (p:Seg->Bool) (N:SlOf h x 5 (l.map j7)) (Y:l.length<1048576) (R:∀g∈l,∀L,ACalls Tryz.prog f ([.ag (j7 g)]++C) (h++L) λr h'=>r=bl (p g)/\h'=h++L):
  ACalls Tryz.prog 66 [x,.fn (.func f) [] C] h λr h'=>∃L,h'=h++L/\NoRes L/\New h 2 r ((zw (xm p l)).map zD) L:=by
 have hex:∃r h',(∃L,h'=h++L/\NoRes L/\New h 2 r ((zw (xm p l)).map zD) L)/\ResK h h':=
  ⟨.sl 2 _,_,⟨[],rfl,jF,λ_ _=>⟨rfl,λ_=>rfl⟩⟩,zT⟩
 refine zf Tryz.f66 [.tmp 4] 29 rfl rfl rfl rfl rfl rfl (by decide) (hex) λB=>?_
 simp only[go_sem,N.rows,List.length_map]
 refine zk (by decide) (λm T h'=>∃k:Nat,k<=l.length/\Pre h h'/\OwnS h h' 134 2 (T 5) ((xm p (l.take k)).map zD)/\T 1= .fn (.func f) [] C/\T 8=x/\T 9=i64 l.length/\T 10=i64 k/\m=l.length - k) l.length
  ⟨0,by omega,Pre.refl,.inl ⟨by simp only[go_sem],rfl⟩,by simp only[go_sem],by simp only[go_sem],by simp only[go_sem],by (simp only[go_sem]<;>rfl),rfl⟩ ?_
 rintro m T h' ⟨k,V,b,z,t1,t8,t9,t10,rfl⟩
 simp only[go_sem,t9,t10]
 refine ways (λe=>?_) (λe=>?_)
 ·have d:=dlt e
  obtain ⟨u,rfl,s⟩:=b
  have t:SlOf (h++u) x 5 (l.map j7):=N.app _
  have E:=t.at (i:=k) (by simpa using d)
  have n:(l.map j7)[k]? =some (j7 l[k]):=by rw[List.getElem?_map,List.getElem?_eq_getElem d];rfl
  have I:(k:Int)<l.length:=by omega
  have a:=W0 p (l.take k) l[k]
  rw[List.take_append_getElem d] at a
  have j:l[k]∈l:=List.getElem_mem d
  obtain ⟨y,Q⟩:∃y,y=l[k]:=⟨_,rfl⟩
  rw[<-Q] at n a j
  have fin:k+1<=l.length:=by omega
  have W:List.length (j7 y)=5:=rfl
  have c:=R y j (u++[.box 137 (j7 y)])
  rw[<-List.append_assoc] at c
  have b:Pre h (h++u):=⟨u,rfl,s⟩
  generalize h++u=h' at*
  simp only[go_sem,t8,t10,t1,E,t.rows,n,I,List.length_map,Int.toNat_natCast,Int.natCast_nonneg]
  refine zd c ?_
  rintro _ X ⟨rfl,S⟩
  subst S
  simp only[go_sem]
  refine ways (λq=>?_) (λq=>?_)
  ·rw[q] at a
   simp only[if_true] at a
   rcases z with ⟨t5,w⟩ | ⟨id,st,A,t5,G⟩
   ·simp only[go_sem,t5,t10]
    refine ⟨l.length - (k+1),by omega,k+1,fin,b.app (zg rfl (zg rfl (zj rfl))),.inr ⟨_,_,by have:=b.len;omega,rfl,?_⟩,t1,t8,t9,zy (by omega) rfl,rfl⟩
    rw[a,List.map_append,w,zl rfl]
    rfl
   ·have D:(((xm p (l.take k)).map zD).length+1)*17<=140737488355328:=by
     have:=XJ p (l.take k)
     rw[List.length_take] at this
     rw[List.length_map];omega
    have J:∀M,(h'++M)[id]? =some (.row 134 2 ((xm p (l.take k)).map zD) st):=λM=>zb G
    simp only[go_sem,t5,t10,J,D]
    refine ⟨l.length - (k+1),by omega,k+1,fin,(b.app (zg rfl (zj rfl))).set A rfl,.inr ⟨id,st+1,A,rfl,?_⟩,t1,t8,t9,zy (by omega) rfl,rfl⟩
    rw[a,List.map_append]
    exact zh (J _)
  ·have q:p y=false:=by simpa using q
   rw[q] at a
   simp only[Bool.false_eq_true,if_false] at a
   simp only[go_sem,t10]
   exact ⟨l.length - (k+1),by omega,k+1,fin,b.app (zj rfl),by rw[a];exact z.app _,t1,t8,t9,zy (by omega) rfl,rfl⟩
 ·have P:=jd e
  have F:k=l.length:=by omega
  subst F
  rw[List.take_length] at z
  have O:=XJ p l
  rcases z with ⟨t5,w⟩ | ⟨id,st,A,t5,G⟩
  ·have w:xm p l=[]:=by simpa using w
   simp only[go_sem,t5]
   refine zd (JLa _) ?_
   rintro _ H ⟨rfl,U⟩
   subst U
   simp only[go_sem]
   refine zd (c65 _ (.v (.slice none 0 0)) [] ⟨rfl,λh=>absurd rfl h⟩ (by simp)) ?_
   rintro r H ⟨L2,rfl,n1,n2⟩
   simp only[go_sem]
   obtain ⟨L,rfl,s⟩:=b
   exact ⟨r,by simp only[go_sem],.inl ⟨L++L2,by simp,s.app n1,by rw[w];exact n2.of rfl⟩⟩
  ·simp only[go_sem,t5]
   refine zd (c96 _ id st _ G) ?_
   rintro _ H ⟨rfl,rfl⟩
   simp only[go_sem]
   refine zd (c65 _ (.sl 2 ((xm p l).map zD)) (xm p l) ⟨rfl,λ_=>rfl⟩ (by omega)) ?_
   rintro r H ⟨L2,rfl,n1,n2⟩
   simp only[go_sem]
   have b:=b.set (o:= .gone) A rfl
   obtain ⟨L,K,s⟩:=b
   exact ⟨r,by simp only[go_sem],.inl ⟨L++L2,by rw[K];simp,s.app n1,n2.of K⟩⟩
def zI (l:List Seg):List Spn:=zw (l.map spS)
def xG (l:List Seg) (k:Int):List Spn:=zw ((l.filter λg=>g.kind==k).map spS)
theorem c31 (h:List Ob) (x:AV) (l:List Seg) (b:SlOf h x 5 (l.map j7)) (c:l.length<1048576):
  ACalls Tryz.prog 24 [x] h λr h'=>∃L,h'=h++L/\NoRes L/\New h 2 r ((zI l).map zD) L:=by
 have hex:∃r h',(∃L,h'=h++L/\NoRes L/\New h 2 r ((zI l).map zD) L)/\ResK h h':=
  ⟨.sl 2 _,_,⟨[],rfl,jF,λ_ _=>⟨rfl,λ_=>rfl⟩⟩,zT⟩
 have a:xm (λ_=>true) l=l.map spS:=by unfold xm;rw[XB λ_ _=>rfl]
 refine zf Tryz.f24 [.tmp 2] 5 rfl rfl rfl rfl rfl rfl (by decide) (hex) λB=>?_
 simp only[go_sem]
 refine zd (c66 h x 67 [] l (λ_=>true) b c λg _ L=>c67 g _) ?_
 rintro r d ⟨L2,rfl,n1,n2⟩
 simp only[go_sem]
 exact ⟨r,by simp only[go_sem],.inl ⟨L2,rfl,n1,by rw[a] at n2;exact n2⟩⟩
theorem c32 (h:List Ob) (x:AV) (l:List Seg) (k:Int) (a:SlOf h x 5 (l.map j7)) (b:l.length<1048576):
  ACalls Tryz.prog 221 [x,i64 k] h λr h'=>∃L,h'=h++L/\NoRes L/\New h 2 r ((xG l k).map zD) L:=by
 have hex:∃r h',(∃L,h'=h++L/\NoRes L/\New h 2 r ((xG l k).map zD) L)/\ResK h h':=
  ⟨.sl 2 _,_,⟨[],rfl,jF,λ_ _=>⟨rfl,λ_=>rfl⟩⟩,zT⟩
 refine zf Tryz.f221 [.tmp 4] 8 rfl rfl rfl rfl rfl rfl (by decide) (hex) λB=>?_
 simp only[go_sem]
 refine zd (c66 _ x 263 [.ptr h.length 0] l (λg=>g.kind==k) (a.app _) b λg _ L=>c68 _ _ g k (by rw[List.append_assoc,zm rfl];rfl)) ?_
 rintro r c ⟨L2,rfl,n1,n2⟩
 simp only[go_sem]
 exact ⟨r,by simp only[go_sem],.inl ⟨_,rfl,zg rfl n1,n2.of rfl⟩⟩
theorem zza (l:List Spn) (x:Spn):qq (l++[x])=qq l+(x.to_ - x.from_):=by simp[qq]
theorem XK {l:List Spn} (a:∀s∈l,0<=s.from_/\s.from_<s.to_/\s.to_<=32054400):0<=qq l/\qq l<=32054400*l.length:=by
 induction l with
 | nil=>simp[qq]
 | cons x l b=>
   have:=b λs h=>a s (.tail _ h)
   have:=a x (.head _)
   simp only[qq,List.map_cons,List.sum_cons,List.length_cons] at*
   omega
theorem c30 (h:List Ob) (x:AV) (l:List Spn) (E:SlOf h x 2 (l.map zD)) (I:l.length<1048576):
  ACalls Tryz.prog 23 [x] h λr h'=>r=i64 (qq (zw l))/\h'=h:=by
 have d:= @jI l
 have g:=zq l
 obtain ⟨n,v⟩:∃n,n=zw l:=⟨_,rfl⟩
 rw[<-v] at d g
 refine zf Tryz.f23 [.tmp 2] 21 rfl rfl rfl rfl rfl rfl (by decide) (⟨_,_,⟨rfl,rfl⟩,.refl⟩) λB=>?_
 simp only[go_sem]
 refine zd (c65 _ x l E (by omega)) ?_
 rintro r J ⟨L2,rfl,n1,n2⟩
 rw[<-v] at n2⊢
 have z:SlOf (h++L2) r 2 (n.map zD):=n2 h rfl
 simp only[go_sem,z.rows,List.length_map]
 refine zk (by decide) (λm T h'=>∃k:Nat,k<=n.length/\Pre (h++L2) h'/\T 2=i64 (qq (n.take k))/\T 6=r/\T 7=i64 n.length/\T 8=i64 k/\m=n.length - k) n.length
  ⟨0,by omega,Pre.refl,by (simp only[go_sem]<;>rfl),by simp only[go_sem],by simp only[go_sem],by (simp only[go_sem]<;>rfl),rfl⟩ ?_
 rintro m T h' ⟨k,F,a,t2,t6,w,t8,rfl⟩
 simp only[go_sem,w,t8]
 refine ways (λe=>?_) (λe=>?_)
 ·have b:=dlt e
  have j:=a.sl z
  have q:=j.at (i:=k) (by simpa using b)
  have c:(n.map zD)[k]? =some (zD n[k]):=by rw[List.getElem?_map,List.getElem?_eq_getElem b];rfl
  have u:(k:Int)<n.length:=by omega
  have f:=zza (n.take k) n[k]
  rw[List.take_append_getElem b] at f
  have p:=XK (l:=n.take k) λs h=>d s (List.mem_of_mem_take h)
  have o:=d _ (List.getElem_mem b)
  rw[List.length_take] at p
  obtain ⟨y,D⟩:∃y,y=n[k]:=⟨_,rfl⟩
  rw[<-D] at c f o
  have G:List.length (zD y)=2:=rfl
  simp only[go_sem,t2,t6,t8,q,j.rows,c,u,List.length_map,Int.toNat_natCast,Int.natCast_nonneg]
  refine ⟨n.length - (k+1),by omega,k+1,by omega,a.app (zj rfl),?_,w,zy (by omega) rfl,rfl⟩
  rw[f]
  show i64 (wr (qq (n.take k)+wr (y.to_ - y.from_)))=_
  rw[zt (n:=y.to_ - y.from_) (by unfold Fit;omega),zt (by unfold Fit;omega)]
 ·have C:=jd e
  have t:k=n.length:=by omega
  subst t
  rw[List.take_length] at t2
  obtain ⟨H,rfl,A⟩:=a
  rw[List.append_assoc]
  simp only[go_sem,t2]
  (first | refine zc ?_ | refine ze ?_ (by rfl))<;>(simp only[go_sem]<;>try rfl)
set_option maxRecDepth 100000
attribute [go_sem] vJa vKa xwa q4a xxa yEa
def s0:Setup:=⟨1,[],(1,1),[((1,1),(1,1))],[(1,1)],[(1,1)],0,900,3600,0,0,0,0,0,0,0,0,[1],0,0,0,[]⟩
def f0:List Flg:=[⟨4,3⟩,⟨5,1⟩]
def a0 (n:Nat):SA:=⟨.v (.slice none 0 0),.tl (n+1) 0,.tl (n+2) 0,.tl (n+3) 0,.tl (n+4) 0,.v (.slice none 0 0)⟩
theorem yi {h:List Ob} {id ty e st:Nat} {xs:List (List AV)} (k:h[id]? =some (.row ty e xs st)):SlOf h (.tl id st) e xs:=⟨by rw[zO,k,xC,if_pos rfl],λ_=>by rw[qJ,k,vh]⟩
theorem zRa {h:List Ob} {e:Nat}:SlOf h (.v (.slice none 0 0)) e []:=⟨rfl,λh=>absurd rfl h⟩
end Go.Proofs.YtfmldcilgbbimaaGreat.Ax
namespace Go.Proofs.YtfmldcilgbbimaaGreat.Ax
open Go Go.RowKit Go.ChangeShapes Go.WideShapes
section
variable {H:Type} {enc:TypeId × Value->H} {P:Program} {w:World} {base:Nat} {held:Bool}
def Vk (P:Program):Nat->TypeId->Bool
 | 0,_=>false
 | n+1,t=>match P.underlying t with
   | some (.int .i64)=>true
   | some (.struct a)=>(List.range (P.cellsOf t)).all λk=>a.toList.any λf=>Vk P n f.type && (decide (f.offset<=k) && decide (k<f.offset+P.cellsOf f.type))
   | _=>false
theorem Q9 {spare:Nat->Bool}:∀(n:Nat) {t:TypeId} {a:Nat} {o:List Value} {x:DataW H × List MemPlace},Vk P n t=true->DataW.trod enc P w base spare held a t o=some x->∀v∈o,∃z,v= .int .i64 z/\(Lit.int .i64 z).wf=true
 | 0,_,_,_,_,h,_=>by cases h
 | n+1,t,a,o,x,h,q=>by
   unfold Vk at h
   split at h
   ·rename_i l
    obtain ⟨z,rfl,_,s⟩:=DataW.trod_int l q
    intro v d
    simp at d
    exact ⟨z,d,s⟩
   ·rename_i b l
    obtain ⟨xs,n',_,_,D,p,A⟩:=DataW.trod_struct l q
    intro v d
    obtain ⟨k,r,rfl⟩:=List.mem_iff_getElem.1 d
    have e:=List.all_eq_true.1 h k (List.mem_range.2 (by omega))
    obtain ⟨f,i,c⟩:=List.any_eq_true.1 e
    simp only[Bool.and_eq_true,decide_eq_true_eq] at c
    obtain ⟨m,B,u⟩:=c
    obtain ⟨j,y,rfl⟩:=List.mem_iff_getElem.1 i
    have g:j<b.size:=by simpa using y
    have:=A j _ (by rw[Array.getElem?_eq_getElem g])
    rw[List.getElem?_eq_getElem (by omega)] at this
    refine Q9 n m this _ ?_
    rw[List.mem_iff_getElem?]
    refine ⟨k - b.toList[j].offset,?_⟩
    have C:b[j]=b.toList[j]:=by simp
    rw[C,List.getElem?_take,if_pos (by omega),List.getElem?_drop,show b.toList[j].offset+(k - b.toList[j].offset)=k by omega,List.getElem?_eq_getElem r]
   ·cases h
abbrev gN:Gh:=⟨λ_=>0,λ_=>undef⟩
abbrev c0 (w:World):Ctx:=ctx w gN []
theorem rd0 {a:Addr} {u:Value} (h:w.cell? a=some u):(c0 w).rd a u:=⟨λ⟨i,o,b,_⟩=>(by cases b),h⟩
theorem Vl {c:Ctx} {A:Addr}:∀(a:List Int) (k:Nat),(∀j z,a[j]? =some z->c.rd (A.add (k+j)) (.int .i64 z))->ACells c (some A) k (a.map i64)
 | [],_,_=>trivial
 | z::a,k,h=>by
   refine ⟨⟨A,_,rfl,by simpa using h 0 z rfl,rfl⟩,Vl a (k+1) λj d b=>?_⟩
   have:=h (j+1) d (by simpa using b)
   rwa[show k+(j+1)=k+1+j by omega] at this
theorem YE {c:Ctx} {A:Addr} {e:Nat}:∀(rows:List (List Int)) (i:Nat),(∀r∈rows,r.length=e)->(∀j r,rows[j]? =some r->∀k z,r[k]? =some z->c.rd (A.add ((i+j)*e+k)) (.int .i64 z))->ARows c (some A) e i (rows.map (·.map i64))
 | [],_,_,_=>trivial
 | r::rows,i,f,d=>by
   refine ⟨⟨by simpa using f r (.head _),Vl r (i*e) λk z a=>by simpa using d 0 r rfl k z a⟩,YE rows (i+1) (λq b=>f q (.tail _ b)) λj q b k z a=>?_⟩
   have:=d (j+1) q (by simpa using b) k z a
   rwa[show i+(j+1)=i+1+j by omega] at this
def Ja (w:World) (e:Nat) (v:Value) (a:AV) (rows:List (List Int)):Prop:=
 AR (c0 w) a v/\SlOf [] a e (rows.map (·.map i64))/\∀r∈rows,r.length=e/\∀z∈r,(Lit.int .i64 z).wf=true
theorem Vm {t e:TypeId} {n B:Nat} {v:Value} {x:DataW H × List MemPlace} (O:P.underlying t=some (.slice e)) (C:Vk P n e=true) (h:DataW.trod enc P w base (λ_=>true) held B t [v]=some x):
  ∃a rows,Ja w (P.cellsOf e) v a rows/\rows.length<=maxLen:=by
 rcases Go.Deep.open_slice O h with ⟨b,_⟩ | ⟨a,len,cap,m,n',D,Q,b,R,L,S,G,rfl,M⟩
 ·injection b with b _
  subst b
  exact ⟨.v (.slice none 0 0),[],⟨rfl,⟨rfl,λh=>absurd rfl h⟩,λ_ h=>by cases h⟩,Nat.zero_le _⟩
 ·injection b with b _
  subst b
  have each:∀i,i<len->∃r:List Int,r.length=P.cellsOf e/\(∀z∈r,(Lit.int .i64 z).wf=true)/\∀k z,r[k]? =some z->w.cell? (a.add (i*P.cellsOf e+k))=some (.int .i64 z):=by
   intro i o
   obtain ⟨d,N,K⟩:=M i (by rw[G];simp;omega)
   obtain ⟨_,g,p⟩:=World.cells?_some N
   have u:=Q9 n C K
   have key:∀k,∃z:Int,k<d.length->d[k]? =some (.int .i64 z)/\(Lit.int .i64 z).wf=true:=λk=>by
    by_cases c:k<d.length
    ·obtain ⟨z,E,I⟩:=u d[k] (List.getElem_mem c)
     exact ⟨z,λ_=>⟨by rw[List.getElem?_eq_getElem c,E],I⟩⟩
    ·exact ⟨0,λh=>absurd h c⟩
   obtain ⟨f,q⟩:=Classical.axiomOfChoice key
   refine ⟨(List.range (P.cellsOf e)).map f,by simp,λz F=>?_,λk z c=>?_⟩
   ·obtain ⟨k,c,rfl⟩:=List.mem_map.1 F
    exact (q k (by have:=List.mem_range.1 c;omega)).2
   ·have A:k<P.cellsOf e:=by have:=(List.getElem?_eq_some_iff.1 c).1;simpa using this
    have F:f k=z:=by simpa [A] using c
    rw[<-Addr.add_add,p k A,(q k (by omega)).1,F]
  have:∃f:Nat->List Int,∀i,i<len->(f i).length=P.cellsOf e/\(∀z∈f i,(Lit.int .i64 z).wf=true)/\∀k z,(f i)[k]? =some z->w.cell? (a.add (i*P.cellsOf e+k))=some (.int .i64 z):=Go.Deep.choose_lt each
  obtain ⟨f,q⟩:=this
  have g:((List.range len).map f).length=len:=by simp
  have l:∀r∈(List.range len).map f,∃i,i<len/\f i=r:=λr s=>by
   obtain ⟨i,o,e⟩:=List.mem_map.1 s
   exact ⟨i,List.mem_range.1 o,e⟩
  refine ⟨.sl (P.cellsOf e) (((List.range len).map f).map (·.map i64)),(List.range len).map f,⟨⟨some a,cap,by simp,by simpa using L,?_⟩,⟨rfl,λ_=>rfl⟩,λr s=>?_⟩,by rw[g];omega⟩
  ·refine YE _ 0 (λr s=>?_) λj r J k z c=>?_
   ·obtain ⟨i,o,rfl⟩:=l r s
    exact (q i o).1
   ·have y:j<len:=by have:=(List.getElem?_eq_some_iff.1 J).1;simpa using this
    have s:f j=r:=by simpa [y] using J
    rw[Nat.zero_add]
    exact rd0 ((q j y).2.2 k z (by rw[s];exact c))
  ·obtain ⟨i,o,rfl⟩:=l r s
   exact ⟨(q i o).1,(q i o).2.1⟩
theorem vAa {t e:TypeId} {n b:Nat} {v:Value} {x:DataW H × List MemPlace} (d:P.underlying t=some (.slice e)) (c:Vk P n e=true) (h:DataW.trod enc P w base (λ_=>true) held b t [v]=some x):
  ∃a rows,Ja w (P.cellsOf e) v a rows:=by
 obtain ⟨a,rows,k,_⟩:=Vm d c h
 exact ⟨a,rows,k⟩
end
theorem V3 {z:Int} (h:(Lit.int .i64 z).wf=true):Fit z:=by
 simp[Lit.wf,IntKind.min,IntKind.max,IntKind.bits,IntKind.signed] at h
 unfold Fit
 omega
def kX (r:List Int) (k:Nat):Int:=r.getD k 0
def yva (r:List Int):Ev:=⟨kX r 0,kX r 1,kX r 2,kX r 3,kX r 4,kX r 5,kX r 6,kX r 7,kX r 8,kX r 9,kX r 10⟩
theorem ZCa:∀ {r:List Int},r.length=11->r.map i64=evC (yva r)
 | [_,_,_,_,_,_,_,_,_,_,_],_=>rfl
def ZY (r:List Int):zx:=(kX r 0,kX r 1)
theorem V4:∀ {r:List Int},r.length=2->r.map i64=qv (ZY r)
 | [_,_],_=>rfl
def z5a (r:List Int):Way:=(kX r 0,kX r 1,kX r 2)
theorem w1a:∀ {r:List Int},r.length=3->r.map i64=QI (z5a r)
 | [_,_,_],_=>rfl
def z6a (r:List Int):Elt:=((kX r 0,kX r 1),(kX r 2,kX r 3))
theorem w2a:∀ {r:List Int},r.length=4->r.map i64=QJ (z6a r)
 | [_,_,_,_],_=>rfl
theorem w3a:∀ {r:List Int},r.length=1->r.map i64=zH (kX r 0)
 | [_],_=>rfl
theorem QC {r:List Int} (h:∀z∈r,(Lit.int .i64 z).wf=true) (k:Nat):Fit (kX r k):=by
 unfold kX
 rw[List.getD_eq_getElem?_getD]
 by_cases a:k<r.length
 ·rw[List.getElem?_eq_getElem a];exact V3 (h _ (List.getElem_mem a))
 ·rw[List.getElem?_eq_none (by omega)];simp[Fit]
theorem yk {α:Type} {f:List Int->α} {g:α->List AV} {e:Nat} (a:∀ {r:List Int},r.length=e->r.map i64=g (f r)) {rows:List (List Int)} (h:∀r∈rows,r.length=e):rows.map (·.map i64)=(rows.map f).map g:=by
 rw[List.map_map]
 exact List.map_congr_left λr b=>a (h r b)
structure SFit0 (s:Setup):Prop where
 places:Fit s.places
 pace:zY s.pace
 elements:∀e∈s.elements,zY e.1/\zY e.2
 classes:∀p∈s.classes,zY p
 gears:∀p∈s.gears,zY p
 tiers:∀t∈s.tiers,zY t
 nw:s.ways.length<9223372036854775808
 ne:s.elements.length<9223372036854775808
 nc:s.classes.length<9223372036854775808
 ng:s.gears.length<9223372036854775808
 nr:s.rates.length<9223372036854775808
 nt:s.tiers.length<9223372036854775808
theorem SFit0.few {s:Setup} (f:SFit0 s) (h:kOa s=true):SFit s:=by
 simp only[kOa,decide_eq_true_eq] at h
 obtain ⟨d,a,e,b,c,g⟩:=h
 exact ⟨f.places,f.pace,f.elements,f.classes,f.gears,f.tiers,by omega,by omega,by omega,by omega,by omega,by omega⟩
def InEvs (w:World) (v:Value):Prop:=∃(x:AV) (l:List Ev),AR (c0 w) x v/\SlOf [] x 11 (l.map evC)
def InSet (w:World) (v:Value):Prop:=∃(s:Setup) (a:SA),AR (c0 w) (qh s a) v/\SIn [] s a/\SFit0 s
section
variable {H:Type} {enc:TypeId × Value->H} {w:World} {base:Nat} {held:Bool}
theorem evs_in {b:Nat} {v:Value} {x:DataW H × List MemPlace} (h:DataW.trod enc Tryz.prog w base (λ_=>true) held b 31 [v]=some x):InEvs w v:=by
 obtain ⟨a,rows,j,c,d⟩:=vAa Tryz.underlying31 (n:=2) (by kernel_rfl) h
 have e:Tryz.prog.cellsOf 73=11:=by kernel_rfl
 rw[e] at c d
 rw[yk (f:=yva) (g:=evC) ZCa λr i=>(d r i).1] at c
 exact ⟨a,_,j,c⟩
theorem Vn {t e:TypeId} {n b:Nat} {v:Value} {y:Option (DataW H × List MemPlace)} (f:Tryz.prog.underlying t=some (.slice e)) (c:Vk Tryz.prog n e=true) (h:DataW.trod enc Tryz.prog w base (λ_=>true) held b t [v]=y) (d:y.isSome=true):∃a rows,Ja w (Tryz.prog.cellsOf e) v a rows/\rows.length<=9223372036854775807:=by
 cases y with
 | none=>cases d
 | some y=>exact Vm f c h
theorem xA {a:Nat} {v:Value} {y:Option (DataW H × List MemPlace)} (h:DataW.trod enc Tryz.prog w base (λ_=>true) held a 3 [v]=y) (c:y.isSome=true):∃z,v= .int .i64 z/\Fit z:=by
 cases y with
 | none=>cases c
 | some y=>
   obtain ⟨z,b,_,d⟩:=DataW.trod_int Tryz.underlying3 h
   injection b with b _
   exact ⟨z,b,V3 d⟩
theorem ZDa {a:Nat} {v0 v1:Value} {y:Option (DataW H × List MemPlace)} (h:DataW.trod enc Tryz.prog w base (λ_=>true) held a 24 [v0,v1]=y) (e:y.isSome=true):∃z0 b,v0= .int .i64 z0/\v1= .int .i64 b/\Fit z0/\Fit b:=by
 cases y with
 | none=>cases e
 | some y=>
   have:=Q9 (n:=2) (by kernel_rfl) h
   obtain ⟨z0,h0,c⟩:=this v0 (by simp)
   obtain ⟨b,d,f⟩:=this v1 (by simp)
   exact ⟨z0,b,h0,d,V3 c,V3 f⟩
set_option maxHeartbeats 1000000 in
set_option maxRecDepth 100000 in
theorem setup_in {r:Reach} {b0:Nat} {v:Value} {d:DataW H} {p:List MemPlace} (hv:Value.okWide Tryz.prog w r b0 30 v) (h:DataW.Trod enc Tryz.prog w base (λ_=>true) held 30 v d p):InSet w v:=by
 simp only[Value.okWide,Tryz.underlying30] at hv
 obtain ⟨X,rfl,_,_⟩:=hv
 obtain ⟨B,m⟩:=h
 have m:DataW.trod enc Tryz.prog w base (λ_=>true) held B 30 X.toList=some (d,p):=by simpa [Value.cells] using m
 obtain ⟨xs,n,_,_,J,o,a⟩:=DataW.trod_struct Tryz.underlying30 m
 have Q:Tryz.prog.cellsOf 30=23:=by kernel_rfl
 have k3:Tryz.prog.cellsOf 3=1:=by kernel_rfl
 have N:Tryz.prog.cellsOf 22=1:=by kernel_rfl
 have l:Tryz.prog.cellsOf 24=2:=by kernel_rfl
 have Z:Tryz.prog.cellsOf 25=1:=by kernel_rfl
 have R:Tryz.prog.cellsOf 26=1:=by kernel_rfl
 have θ:Tryz.prog.cellsOf 27=1:=by kernel_rfl
 have W:Tryz.prog.cellsOf 28=1:=by kernel_rfl
 have D:Tryz.prog.cellsOf 205=3:=by kernel_rfl
 have U:Tryz.prog.cellsOf 166=4:=by kernel_rfl
 have P:Tryz.prog.cellsOf 168=2:=by kernel_rfl
 rw[Q] at J
 have b:∀j,j<22->(xs[j]?).isSome=true:=λj hj=>by
  have:j<xs.length:=by rw[o];exact hj
  simp[this]
 generalize η:X.toList=L at J a
 match L,J with
 | [v0,v1,v2,v3,v4,v5,v6,v7,v8,v9,v10,v11,v12,v13,v14,v15,v16,v17,v18,v19,v20,v21,v22],_=>
   have f0:=a 0 ⟨"Places",3,0,false, "", "",0⟩ rfl
   have f1:=a 1 ⟨"Ways",22,1,false, "", "",8⟩ rfl
   have f2:=a 2 ⟨"Pace",24,2,false, "", "",32⟩ rfl
   have f3:=a 3 ⟨"Elements",25,4,false, "", "",48⟩ rfl
   have f4:=a 4 ⟨"Classes",26,5,false, "", "",72⟩ rfl
   have f5:=a 5 ⟨"Gears",26,6,false, "", "",96⟩ rfl
   have f6:=a 6 ⟨"Allow",3,7,false, "", "",120⟩ rfl
   have f7:=a 7 ⟨"Unit",3,8,false, "", "",128⟩ rfl
   have f8:=a 8 ⟨"Cap",3,9,false, "", "",136⟩ rfl
   have f9:=a 9 ⟨"PaidBreak",3,10,false, "", "",144⟩ rfl
   have t:=a 10 ⟨"AutoAfter",3,11,false, "", "",152⟩ rfl
   have q:=a 11 ⟨"AutoBreak",3,12,false, "", "",160⟩ rfl
   have A:=a 12 ⟨"DayReg",3,13,false, "", "",168⟩ rfl
   have z:=a 13 ⟨"DayOver",3,14,false, "", "",176⟩ rfl
   have f14:=a 14 ⟨"WeekReg",3,15,false, "", "",184⟩ rfl
   have f15:=a 15 ⟨"NightFrom",3,16,false, "", "",192⟩ rfl
   have C:=a 16 ⟨"NightTo",3,17,false, "", "",200⟩ rfl
   have u:=a 17 ⟨"Rates",27,18,false, "", "",208⟩ rfl
   have s:=a 18 ⟨"Diff",3,19,false, "", "",232⟩ rfl
   have x:=a 19 ⟨"Least",3,20,false, "", "",240⟩ rfl
   have f20:=a 20 ⟨"Fault",3,21,false, "", "",248⟩ rfl
   have f21:=a 21 ⟨"Tiers",28,22,false, "", "",256⟩ rfl
   simp only[List.drop_succ_cons,List.drop_zero,List.take_succ_cons,List.take_zero,List.take_nil,k3,N,l,Z,R,θ,W] at f0 f1 f2 f3 f4 f5 f6 f7 f8 f9 t q A z f14 f15 C u s x f20 f21
   obtain ⟨z0,rfl,g0⟩:=xA f0 (b 0 (by omega))
   obtain ⟨a1,r1,⟨m1,n1,o1⟩,q1⟩:=Vn Tryz.underlying22 (n:=3) (by kernel_rfl) f1 (b 1 (by omega))
   rw[D] at n1 o1
   obtain ⟨z2,z3,rfl,rfl,g2,g3⟩:=ZDa f2 (b 2 (by omega))
   obtain ⟨a4,r4,⟨m4,n4,G⟩,q4⟩:=Vn Tryz.underlying25 (n:=3) (by kernel_rfl) f3 (b 3 (by omega))
   rw[U] at n4 G
   obtain ⟨a5,r5,⟨m5,n5,K⟩,q5⟩:=Vn Tryz.underlying26 (n:=3) (by kernel_rfl) f4 (b 4 (by omega))
   rw[l] at n5 K
   obtain ⟨a6,r6,⟨m6,n6,V⟩,q6⟩:=Vn Tryz.underlying26 (n:=3) (by kernel_rfl) f5 (b 5 (by omega))
   rw[l] at n6 V
   obtain ⟨z7,rfl,g7⟩:=xA f6 (b 6 (by omega))
   obtain ⟨z8,rfl,g8⟩:=xA f7 (b 7 (by omega))
   obtain ⟨z9,rfl,g9⟩:=xA f8 (b 8 (by omega))
   obtain ⟨κ,rfl,g10⟩:=xA f9 (b 9 (by omega))
   obtain ⟨S,rfl,g11⟩:=xA t (b 10 (by omega))
   obtain ⟨T,rfl,g12⟩:=xA q (b 11 (by omega))
   obtain ⟨I,rfl,g13⟩:=xA A (b 12 (by omega))
   obtain ⟨δ,rfl,g14⟩:=xA z (b 13 (by omega))
   obtain ⟨M,rfl,g15⟩:=xA f14 (b 14 (by omega))
   obtain ⟨E,rfl,g16⟩:=xA f15 (b 15 (by omega))
   obtain ⟨F,rfl,g17⟩:=xA C (b 16 (by omega))
   obtain ⟨ι,O,⟨β,n18,y⟩,q18⟩:=Vn Tryz.underlying27 (n:=3) (by kernel_rfl) u (b 17 (by omega))
   rw[k3] at n18 y
   obtain ⟨ε,rfl,g19⟩:=xA s (b 18 (by omega))
   obtain ⟨γ,rfl,χ⟩:=xA x (b 19 (by omega))
   obtain ⟨Y,rfl,g21⟩:=xA f20 (b 20 (by omega))
   obtain ⟨a22,μ,⟨ζ,n22,k⟩,q22⟩:=Vn Tryz.underlying28 (n:=3) (by kernel_rfl) f21 (b 21 (by omega))
   rw[P] at n22 k
   rw[yk (f:=z5a) (g:=QI) w1a λr c=>(o1 r c).1] at n1
   rw[yk (f:=z6a) (g:=QJ) w2a λr c=>(G r c).1] at n4
   rw[yk (f:=ZY) (g:=qv) V4 λr c=>(K r c).1] at n5
   rw[yk (f:=ZY) (g:=qv) V4 λr c=>(V r c).1] at n6
   rw[yk (f:=(λr=>kX r 0)) (g:=zH) w3a λr c=>(y r c).1] at n18
   rw[yk (f:=ZY) (g:=qv) V4 λr c=>(k r c).1] at n22
   refine ⟨⟨z0,r1.map z5a,(z2,z3),r4.map z6a,r5.map ZY,r6.map ZY,z7,z8,z9,κ,S,T,I,δ,M,E,F,O.map (λr=>kX r 0),ε,γ,Y,μ.map ZY⟩,⟨a1,a4,a5,a6,ι,a22⟩,⟨X,rfl,?_⟩,⟨n1,n4,n5,n6,n18,n22⟩,⟨g0,⟨g2,g3⟩,?_,?_,?_,?_,by rw[List.length_map];omega,by rw[List.length_map];omega,by rw[List.length_map];omega,by rw[List.length_map];omega,by rw[List.length_map];omega,by rw[List.length_map];omega⟩⟩
   ·rw[η]
    exact ⟨_,_,rfl,rfl,⟨_,_,rfl,m1,⟨_,_,rfl,rfl,⟨_,_,rfl,rfl,⟨_,_,rfl,m4,⟨_,_,rfl,m5,⟨_,_,rfl,m6,⟨_,_,rfl,rfl,⟨_,_,rfl,rfl,⟨_,_,rfl,rfl,⟨_,_,rfl,rfl,⟨_,_,rfl,rfl,⟨_,_,rfl,rfl,⟨_,_,rfl,rfl,⟨_,_,rfl,rfl,⟨_,_,rfl,rfl,⟨_,_,rfl,rfl,⟨_,_,rfl,rfl,⟨_,_,rfl,β,⟨_,_,rfl,rfl,⟨_,_,rfl,rfl,⟨_,_,rfl,rfl,⟨_,_,rfl,ζ,rfl⟩⟩⟩⟩⟩⟩⟩⟩⟩⟩⟩⟩⟩⟩⟩⟩⟩⟩⟩⟩⟩⟩⟩
   ·intro e i
    obtain ⟨r,c,rfl⟩:=List.mem_map.1 i
    have:=QC (G r c).2
    exact ⟨⟨this 0,this 1⟩,this 2,this 3⟩
   ·intro e i
    obtain ⟨r,c,rfl⟩:=List.mem_map.1 i
    have:=QC (K r c).2
    exact ⟨this 0,this 1⟩
   ·intro e i
    obtain ⟨r,c,rfl⟩:=List.mem_map.1 i
    have:=QC (V r c).2
    exact ⟨this 0,this 1⟩
   ·intro e i
    obtain ⟨r,c,rfl⟩:=List.mem_map.1 i
    have:=QC (k r c).2
    exact ⟨this 0,this 1⟩
end
theorem run_law {f:FuncId} {args:List AV} {vs:List Value} {w:World} (c:ACalls Tryz.prog f args [] λr h'=>r=bl true/\h'=[]) (l:ARs (c0 w) args vs):Calls Tryz.prog f vs.toArray w λe w'=>e= .returned (.bool true)/\Below w.heap.size w w':=by
 have h:fill (λ_=> .res) ([]:List Ob)=[]:=KA
 have a:HOk w.heap.size w gN []:=⟨λi o d=>(by cases d),λi j o p b _ d=>(by cases d)⟩
 refine (c.2.2 (λ_=> .res) (λ_ _=>rfl) w.heap.size w gN vs (by rw[h];exact a) (Nat.le_refl _) (by rw[h];exact l)).mono ?_
 rintro e w' ⟨v,r,h',g',rfl,⟨rfl,rfl⟩,_,k,g⟩
 have g:v= .bool true:=g
 subst g
 exact ⟨rfl,k.below⟩
end Go.Proofs.YtfmldcilgbbimaaGreat.Ax
