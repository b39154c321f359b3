/-
  Joined.
-/
import Derived.Test.YtfmldcilgbbimaaGreatK22
import Derived.Test.YtfmldcilgbbimaaGreatK21
import Derived.Test.YtfmldcilgbbimaaGreatK14
import Derived.Deep.SlicePairs
import Derived.WideShapes
import Derived.ChangeShapes
import Derived.Test.YtfmldcilgbbimaaGreatK20
set_option linter.unusedSimpArgs false
set_option linter.unusedVariables false
namespace Go.Proofs.YtfmldcilgbbimaaGreat.Ax
open Go Go.Proofs
set_option maxRecDepth 100000
attribute [go_sem] XGa XKa
theorem New.of {h h':List Ob} {e:Nat} {x:AV} {rows:List (List AV)} {L L2:List Ob} (a:h'=h++L) (k:New h' e x rows L2):New h e x rows (L++L2):=λb c=>by
 have:=k (b++L) (by rw[a];simp[c])
 rwa[List.append_assoc] at this
theorem NoRes.app {L M:List Ob} (a:NoRes L) (b:NoRes M):NoRes (L++M):=λo c=>by
 rcases List.mem_append.1 c with h | h
 ·exact a o h
 ·exact b o h
theorem c67 (g:Seg):ji Tryz.prog 67 [.ag (jo g)] (bl true):=λh=>by
 refine zf Tryz.f67 [.tmp 2] 3 rfl rfl rfl rfl rfl rfl (by decide) (⟨_,_,⟨rfl,rfl⟩,.refl⟩) λB=>?_
 simp only[go_sem]
 (first | refine zd ?_ | refine ze ?_ (by rfl))<;>(simp only[go_sem]<;>try rfl)
theorem c68 (h:List Ob) (i:Nat) (g:Seg) (k:Int) (b:h[i]? =some (.box 3 [i64 k])):ACalls Tryz.prog 263 [.ag (jo g),.ptr i 0] h λr h'=>r=bl (g.kind==k)/\h'=h:=by
 have a:∀M,(h++M)[i]? =some (.box 3 [i64 k]):=λM=>zb b
 refine zf Tryz.f263 [.tmp 3] 8 rfl rfl rfl rfl rfl rfl (by decide) (⟨_,_,⟨rfl,rfl⟩,.refl⟩) λB=>?_
 simp only[go_sem,a]
 (first | refine zd ?_ | refine ze ?_ (by rfl))<;>(simp only[go_sem]<;>try rfl)
def kv (p:Seg->Bool) (l:List Seg):List Spn:=(l.filter p).map spS
theorem qYa (p:Seg->Bool) (l:List Seg) (g:Seg):kv p (l++[g])=if p g then kv p l++[spS g] else kv p l:=by
 unfold kv
 rw[List.filter_append,List.map_append]
 cases h:p g<;>simp[h]
theorem V4 (p:Seg->Bool) (l:List Seg):(kv p l).length<=l.length:=by
 unfold kv
 rw[List.length_map]
 exact List.length_filter_le p l
set_option maxHeartbeats 1000000 in
theorem c66 (h:List Ob) (x:AV) (f:FuncId) (cs:List AV) (l:List Seg) (p:Seg->Bool) (I:SlOf h x 5 (l.map jo)) (W:l.length<1048576) (Q:∀g∈l,∀L,ACalls Tryz.prog f ([.ag (jo g)]++cs) (h++L) λr h'=>r=bl (p g)/\h'=h++L):
  ACalls Tryz.prog 66 [x,.fn (.func f) [] cs] h λr h'=>∃L,h'=h++L/\NoRes L/\New h 2 r ((zE (kv p l)).map zH) L:=by
 have hex:∃r h',(∃L,h'=h++L/\NoRes L/\New h 2 r ((zE (kv p l)).map zH) L)/\ResK h h':=
  ⟨.sl 2 _,_,⟨[],rfl,qh,λ_ _=>⟨rfl,λ_=>rfl⟩⟩,zR⟩
 refine zf Tryz.f66 [.tmp 4] 29 rfl rfl rfl rfl rfl rfl (by decide) (hex) λB=>?_
 simp only[go_sem,I.rows,List.length_map]
 refine zj (by decide) (λm T h'=>∃k:Nat,k<=l.length/\Pre h h'/\OwnS h h' 134 2 (T 5) ((kv p (l.take k)).map zH)/\T 1= .fn (.func f) [] cs/\T 8=x/\T 9=i64 l.length/\T 10=i64 k/\m=l.length - k) l.length
  ⟨0,by omega,Pre.refl,.inl ⟨by simp only[go_sem],rfl⟩,by simp only[go_sem],by simp only[go_sem],by simp only[go_sem],by (simp only[go_sem]<;>rfl),rfl⟩ ?_
 rintro m T h' ⟨k,V,b,A,t1,t8,t9,t10,rfl⟩
 simp only[go_sem,t9,t10]
 refine ways (λe=>?_) (λe=>?_)
 ·have d:=dlt e
  obtain ⟨q,rfl,u⟩:=b
  have s:SlOf (h++q) x 5 (l.map jo):=I.app _
  have F:=s.at (i:=k) (by simpa using d)
  have n:(l.map jo)[k]? =some (jo l[k]):=by rw[List.getElem?_map,List.getElem?_eq_getElem d];rfl
  have G:(k:Int)<l.length:=by omega
  have a:=qYa p (l.take k) l[k]
  rw[List.take_append_getElem d] at a
  have j:l[k]∈l:=List.getElem_mem d
  obtain ⟨y,S⟩:∃y,y=l[k]:=⟨_,rfl⟩
  rw[<-S] at n a j
  have fin:k+1<=l.length:=by omega
  have U:List.length (jo y)=5:=rfl
  have c:=Q y j (q++[.box 137 (jo y)])
  rw[<-List.append_assoc] at c
  have b:Pre h (h++q):=⟨q,rfl,u⟩
  generalize h++q=h' at*
  simp only[go_sem,t8,t10,t1,F,s.rows,n,G,List.length_map,Int.toNat_natCast,Int.natCast_nonneg]
  refine zc c ?_
  rintro _ X ⟨rfl,N⟩
  subst N
  simp only[go_sem]
  refine ways (λt=>?_) (λt=>?_)
  ·rw[t] at a
   simp only[if_true] at a
   rcases A with ⟨t5,w⟩ | ⟨id,st,z,t5,E⟩
   ·simp only[go_sem,t5,t10]
    refine ⟨l.length - (k+1),by omega,k+1,fin,b.app (zg rfl (zg rfl (zi rfl))),.inr ⟨_,_,by have:=b.len;omega,rfl,?_⟩,t1,t8,t9,zx (by omega) rfl,rfl⟩
    rw[a,List.map_append,w,zm rfl]
    rfl
   ·have C:(((kv p (l.take k)).map zH).length+1)*17<=140737488355328:=by
     have:=V4 p (l.take k)
     rw[List.length_take] at this
     rw[List.length_map];omega
    have K:∀M,(h'++M)[id]? =some (.row 134 2 ((kv p (l.take k)).map zH) st):=λM=>zb E
    simp only[go_sem,t5,t10,K,C]
    refine ⟨l.length - (k+1),by omega,k+1,fin,(b.app (zg rfl (zi rfl))).set z rfl,.inr ⟨id,st+1,z,rfl,?_⟩,t1,t8,t9,zx (by omega) rfl,rfl⟩
    rw[a,List.map_append]
    exact zh (K _)
  ·have t:p y=false:=by simpa using t
   rw[t] at a
   simp only[Bool.false_eq_true,if_false] at a
   simp only[go_sem,t10]
   exact ⟨l.length - (k+1),by omega,k+1,fin,b.app (zi rfl),by rw[a];exact A.app _,t1,t8,t9,zx (by omega) rfl,rfl⟩
 ·have R:=qU e
  have D:k=l.length:=by omega
  subst D
  rw[List.take_length] at A
  have O:=V4 p l
  rcases A with ⟨t5,w⟩ | ⟨id,st,z,t5,E⟩
  ·have w:kv p l=[]:=by simpa using w
   simp only[go_sem,t5]
   refine zc (YYa _) ?_
   rintro _ H ⟨rfl,P⟩
   subst P
   simp only[go_sem]
   refine zc (c65 _ (.v (.slice none 0 0)) [] ⟨rfl,λh=>absurd rfl h⟩ (by simp)) ?_
   rintro r H ⟨L2,rfl,n1,n2⟩
   simp only[go_sem]
   obtain ⟨L,rfl,u⟩:=b
   exact ⟨r,by simp only[go_sem],.inl ⟨L++L2,by simp,u.app n1,by rw[w];exact n2.of rfl⟩⟩
  ·simp only[go_sem,t5]
   refine zc (c96 _ id st _ E) ?_
   rintro _ H ⟨rfl,rfl⟩
   simp only[go_sem]
   refine zc (c65 _ (.sl 2 ((kv p l).map zH)) (kv p l) ⟨rfl,λ_=>rfl⟩ (by omega)) ?_
   rintro r H ⟨L2,rfl,n1,n2⟩
   simp only[go_sem]
   have b:=b.set (o:= .gone) z rfl
   obtain ⟨L,J,u⟩:=b
   exact ⟨r,by simp only[go_sem],.inl ⟨L++L2,by rw[J];simp,u.app n1,n2.of J⟩⟩
def zV (l:List Seg):List Spn:=zE (l.map spS)
def j8 (l:List Seg) (k:Int):List Spn:=zE ((l.filter λg=>g.kind==k).map spS)
theorem c31 (h:List Ob) (x:AV) (l:List Seg) (c:SlOf h x 5 (l.map jo)) (b:l.length<1048576):
  ACalls Tryz.prog 24 [x] h λr h'=>∃L,h'=h++L/\NoRes L/\New h 2 r ((zV l).map zH) L:=by
 have hex:∃r h',(∃L,h'=h++L/\NoRes L/\New h 2 r ((zV l).map zH) L)/\ResK h h':=
  ⟨.sl 2 _,_,⟨[],rfl,qh,λ_ _=>⟨rfl,λ_=>rfl⟩⟩,zR⟩
 have a:kv (λ_=>true) l=l.map spS:=by unfold kv;rw[Zp λ_ _=>rfl]
 refine zf Tryz.f24 [.tmp 2] 5 rfl rfl rfl rfl rfl rfl (by decide) (hex) λB=>?_
 simp only[go_sem]
 refine zc (c66 h x 67 [] l (λ_=>true) c b λg _ L=>c67 g _) ?_
 rintro r d ⟨L2,rfl,n1,n2⟩
 simp only[go_sem]
 exact ⟨r,by simp only[go_sem],.inl ⟨L2,rfl,n1,by rw[a] at n2;exact n2⟩⟩
theorem c32 (h:List Ob) (x:AV) (l:List Seg) (k:Int) (b:SlOf h x 5 (l.map jo)) (a:l.length<1048576):
  ACalls Tryz.prog 221 [x,i64 k] h λr h'=>∃L,h'=h++L/\NoRes L/\New h 2 r ((j8 l k).map zH) L:=by
 have hex:∃r h',(∃L,h'=h++L/\NoRes L/\New h 2 r ((j8 l k).map zH) L)/\ResK h h':=
  ⟨.sl 2 _,_,⟨[],rfl,qh,λ_ _=>⟨rfl,λ_=>rfl⟩⟩,zR⟩
 refine zf Tryz.f221 [.tmp 4] 8 rfl rfl rfl rfl rfl rfl (by decide) (hex) λB=>?_
 simp only[go_sem]
 refine zc (c66 _ x 263 [.ptr h.length 0] l (λg=>g.kind==k) (b.app _) a λg _ L=>c68 _ _ g k (by rw[List.append_assoc,zo rfl];rfl)) ?_
 rintro r c ⟨L2,rfl,n1,n2⟩
 simp only[go_sem]
 exact ⟨r,by simp only[go_sem],.inl ⟨_,rfl,zg rfl n1,n2.of rfl⟩⟩
theorem xRa (l:List Spn) (x:Spn):qZ (l++[x])=qZ l+(x.to_ - x.from_):=by simp[qZ]
theorem V5 {l:List Spn} (a:∀s∈l,0<=s.from_/\s.from_<s.to_/\s.to_<=32054400):0<=qZ l/\qZ l<=32054400*l.length:=by
 induction l with
 | nil=>simp[qZ]
 | cons x l b=>
   have:=b λs h=>a s (.tail _ h)
   have:=a x (.head _)
   simp only[qZ,List.map_cons,List.sum_cons,List.length_cons] at*
   omega
theorem c30 (h:List Ob) (x:AV) (l:List Spn) (C:SlOf h x 2 (l.map zH)) (H:l.length<1048576):
  ACalls Tryz.prog 23 [x] h λr h'=>r=i64 (qZ (zE l))/\h'=h:=by
 have d:= @jZ l
 have j:=zy l
 obtain ⟨n,w⟩:∃n,n=zE l:=⟨_,rfl⟩
 rw[<-w] at d j
 refine zf Tryz.f23 [.tmp 2] 21 rfl rfl rfl rfl rfl rfl (by decide) (⟨_,_,⟨rfl,rfl⟩,.refl⟩) λB=>?_
 simp only[go_sem]
 refine zc (c65 _ x l C (by omega)) ?_
 rintro r J ⟨L2,rfl,n1,n2⟩
 rw[<-w] at n2⊢
 have z:SlOf (h++L2) r 2 (n.map zH):=n2 h rfl
 simp only[go_sem,z.rows,List.length_map]
 refine zj (by decide) (λm T h'=>∃k:Nat,k<=n.length/\Pre (h++L2) h'/\T 2=i64 (qZ (n.take k))/\T 6=r/\T 7=i64 n.length/\T 8=i64 k/\m=n.length - k) n.length
  ⟨0,by omega,Pre.refl,by (simp only[go_sem]<;>rfl),by simp only[go_sem],by simp only[go_sem],by (simp only[go_sem]<;>rfl),rfl⟩ ?_
 rintro m T h' ⟨k,G,a,t2,t6,v,t8,rfl⟩
 simp only[go_sem,v,t8]
 refine ways (λe=>?_) (λe=>?_)
 ·have b:=dlt e
  have g:=a.sl z
  have t:=g.at (i:=k) (by simpa using b)
  have c:(n.map zH)[k]? =some (zH n[k]):=by rw[List.getElem?_map,List.getElem?_eq_getElem b];rfl
  have u:(k:Int)<n.length:=by omega
  have f:=xRa (n.take k) n[k]
  rw[List.take_append_getElem b] at f
  have q:=V5 (l:=n.take k) λs h=>d s (List.mem_of_mem_take h)
  have o:=d _ (List.getElem_mem b)
  rw[List.length_take] at q
  obtain ⟨y,E⟩:∃y,y=n[k]:=⟨_,rfl⟩
  rw[<-E] at c f o
  have F:List.length (zH y)=2:=rfl
  simp only[go_sem,t2,t6,t8,t,g.rows,c,u,List.length_map,Int.toNat_natCast,Int.natCast_nonneg]
  refine ⟨n.length - (k+1),by omega,k+1,by omega,a.app (zi rfl),?_,v,zx (by omega) rfl,rfl⟩
  rw[f]
  show i64 (wr (qZ (n.take k)+wr (y.to_ - y.from_)))=_
  rw[zI (n:=y.to_ - y.from_) (by unfold Fit;omega),zI (by unfold Fit;omega)]
 ·have D:=qU e
  have p:k=n.length:=by omega
  subst p
  rw[List.take_length] at t2
  obtain ⟨I,rfl,A⟩:=a
  rw[List.append_assoc]
  simp only[go_sem,t2]
  (first | refine zd ?_ | refine ze ?_ (by rfl))<;>(simp only[go_sem]<;>try rfl)
set_option maxRecDepth 100000
attribute [go_sem] QOa QPa yoa vHa ypa Kba
def s0:Setup:=⟨1,[],(1,1),[((1,1),(1,1))],[(1,1)],[(1,1)],0,900,3600,0,0,0,0,0,0,0,0,[1],0,0,0,[]⟩
def f0:List Flg:=[⟨4,3⟩,⟨5,1⟩]
def a0 (n:Nat):SA:=⟨.v (.slice none 0 0),.tl (n+1) 0,.tl (n+2) 0,.tl (n+3) 0,.tl (n+4) 0,.v (.slice none 0 0)⟩
theorem X6 {h:List Ob} {id ty e st:Nat} {xs:List (List AV)} (k:h[id]? =some (.row ty e xs st)):SlOf h (.tl id st) e xs:=⟨by rw[zX,k,jV,if_pos rfl],λ_=>by rw[qE,k,km]⟩
theorem Qs {h:List Ob} {e:Nat}:SlOf h (.v (.slice none 0 0)) e []:=⟨rfl,λh=>absurd rfl h⟩
end Go.Proofs.YtfmldcilgbbimaaGreat.Ax
namespace Go.Proofs.YtfmldcilgbbimaaGreat.Ax
open Go Go.RowKit Go.ChangeShapes Go.WideShapes
section
variable {H:Type} {enc:TypeId × Value->H} {P:Program} {w:World} {base:Nat} {held:Bool}
def Y6 (P:Program):Nat->TypeId->Bool
 | 0,_=>false
 | n+1,t=>match P.underlying t with
   | some (.int .i64)=>true
   | some (.struct a)=>(List.range (P.cellsOf t)).all λk=>a.toList.any λf=>Y6 P n f.type && (decide (f.offset<=k) && decide (k<f.offset+P.cellsOf f.type))
   | _=>false
theorem Q3 {spare:Nat->Bool}:∀(n:Nat) {t:TypeId} {a:Nat} {cs:List Value} {x:DataW H × List MemPlace},Y6 P n t=true->DataW.trod enc P w base spare held a t cs=some x->∀v∈cs,∃z,v= .int .i64 z/\(Lit.int .i64 z).wf=true
 | 0,_,_,_,_,h,_=>by cases h
 | n+1,t,a,cs,x,h,o=>by
   unfold Y6 at h
   split at h
   ·rename_i e
    obtain ⟨z,rfl,_,B⟩:=DataW.trod_int e o
    intro v d
    simp at d
    exact ⟨z,d,B⟩
   ·rename_i b e
    obtain ⟨xs,n',_,_,C,p,q⟩:=DataW.trod_struct e o
    intro v d
    obtain ⟨k,r,rfl⟩:=List.mem_iff_getElem.1 d
    have g:=List.all_eq_true.1 h k (List.mem_range.2 (by omega))
    obtain ⟨f,m,c⟩:=List.any_eq_true.1 g
    simp only[Bool.and_eq_true,decide_eq_true_eq] at c
    obtain ⟨i,s,u⟩:=c
    obtain ⟨j,y,rfl⟩:=List.mem_iff_getElem.1 m
    have l:j<b.size:=by simpa using y
    have:=q j _ (by rw[Array.getElem?_eq_getElem l])
    rw[List.getElem?_eq_getElem (by omega)] at this
    refine Q3 n i this _ ?_
    rw[List.mem_iff_getElem?]
    refine ⟨k - b.toList[j].offset,?_⟩
    have A:b[j]=b.toList[j]:=by simp
    rw[A,List.getElem?_take,if_pos (by omega),List.getElem?_drop,show b.toList[j].offset+(k - b.toList[j].offset)=k by omega,List.getElem?_eq_getElem r]
   ·cases h
abbrev gN:Gh:=⟨λ_=>0,λ_=>undef⟩
abbrev c0 (w:World):Ctx:=ctx w gN []
theorem rd0 {a:Addr} {u:Value} (h:w.cell? a=some u):(c0 w).rd a u:=⟨λ⟨i,o,b,_⟩=>(by cases b),h⟩
theorem Y7 {c:Ctx} {A:Addr}:∀(a:List Int) (k:Nat),(∀j z,a[j]? =some z->c.rd (A.add (k+j)) (.int .i64 z))->ACells c (some A) k (a.map i64)
 | [],_,_=>trivial
 | z::a,k,h=>by
   refine ⟨⟨A,_,rfl,by simpa using h 0 z rfl,rfl⟩,Y7 a (k+1) λj b d=>?_⟩
   have:=h (j+1) b (by simpa using d)
   rwa[show k+(j+1)=k+1+j by omega] at this
theorem jYa {c:Ctx} {A:Addr} {e:Nat}:∀(rows:List (List Int)) (i:Nat),(∀r∈rows,r.length=e)->(∀j r,rows[j]? =some r->∀k z,r[k]? =some z->c.rd (A.add ((i+j)*e+k)) (.int .i64 z))->ARows c (some A) e i (rows.map (·.map i64))
 | [],_,_,_=>trivial
 | r::rows,i,d,f=>by
   refine ⟨⟨by simpa using d r (.head _),Y7 r (i*e) λk z b=>by simpa using f 0 r rfl k z b⟩,jYa rows (i+1) (λq a=>d q (.tail _ a)) λj q a k z b=>?_⟩
   have:=f (j+1) q (by simpa using a) k z b
   rwa[show i+(j+1)=i+1+j by omega] at this
def Kn (w:World) (e:Nat) (v:Value) (a:AV) (rows:List (List Int)):Prop:=
 AR (c0 w) a v/\SlOf [] a e (rows.map (·.map i64))/\∀r∈rows,r.length=e/\∀z∈r,(Lit.int .i64 z).wf=true
theorem Y8 {t e:TypeId} {n s:Nat} {v:Value} {x:DataW H × List MemPlace} (J:P.underlying t=some (.slice e)) (F:Y6 P n e=true) (h:DataW.trod enc P w base (λ_=>true) held s t [v]=some x):
  ∃a rows,Kn w (P.cellsOf e) v a rows/\rows.length<=maxLen:=by
 rcases Go.Deep.open_slice J h with ⟨b,_⟩ | ⟨a,len,cap,m,n',D,R,b,Q,M,O,B,rfl,L⟩
 ·injection b with b _
  subst b
  exact ⟨.v (.slice none 0 0),[],⟨rfl,⟨rfl,λh=>absurd rfl h⟩,λ_ h=>by cases h⟩,Nat.zero_le _⟩
 ·injection b with b _
  subst b
  have each:∀i,i<len->∃r:List Int,r.length=P.cellsOf e/\(∀z∈r,(Lit.int .i64 z).wf=true)/\∀k z,r[k]? =some z->w.cell? (a.add (i*P.cellsOf e+k))=some (.int .i64 z):=by
   intro i o
   obtain ⟨cs',N,K⟩:=L i (by rw[B];simp;omega)
   obtain ⟨_,g,p⟩:=World.cells?_some N
   have u:=Q3 n F K
   have key:∀k,∃z:Int,k<cs'.length->cs'[k]? =some (.int .i64 z)/\(Lit.int .i64 z).wf=true:=λk=>by
    by_cases c:k<cs'.length
    ·obtain ⟨z,C,G⟩:=u cs'[k] (List.getElem_mem c)
     exact ⟨z,λ_=>⟨by rw[List.getElem?_eq_getElem c,C],G⟩⟩
    ·exact ⟨0,λh=>absurd h c⟩
   obtain ⟨f,l⟩:=Classical.axiomOfChoice key
   refine ⟨(List.range (P.cellsOf e)).map f,by simp,λz E=>?_,λk z c=>?_⟩
   ·obtain ⟨k,c,rfl⟩:=List.mem_map.1 E
    exact (l k (by have:=List.mem_range.1 c;omega)).2
   ·have A:k<P.cellsOf e:=by have:=(List.getElem?_eq_some_iff.1 c).1;simpa using this
    have E:f k=z:=by simpa [A] using c
    rw[<-Addr.add_add,p k A,(l k (by omega)).1,E]
  have:∃f:Nat->List Int,∀i,i<len->(f i).length=P.cellsOf e/\(∀z∈f i,(Lit.int .i64 z).wf=true)/\∀k z,(f i)[k]? =some z->w.cell? (a.add (i*P.cellsOf e+k))=some (.int .i64 z):=Go.Deep.choose_lt each
  obtain ⟨f,l⟩:=this
  have g:((List.range len).map f).length=len:=by simp
  have d:∀r∈(List.range len).map f,∃i,i<len/\f i=r:=λr q=>by
   obtain ⟨i,o,e⟩:=List.mem_map.1 q
   exact ⟨i,List.mem_range.1 o,e⟩
  refine ⟨.sl (P.cellsOf e) (((List.range len).map f).map (·.map i64)),(List.range len).map f,⟨⟨some a,cap,by simp,by simpa using M,?_⟩,⟨rfl,λ_=>rfl⟩,λr q=>?_⟩,by rw[g];omega⟩
  ·refine jYa _ 0 (λr q=>?_) λj r I k z c=>?_
   ·obtain ⟨i,o,rfl⟩:=d r q
    exact (l i o).1
   ·have y:j<len:=by have:=(List.getElem?_eq_some_iff.1 I).1;simpa using this
    have q:f j=r:=by simpa [y] using I
    rw[Nat.zero_add]
    exact rd0 ((l j y).2.2 k z (by rw[q];exact c))
  ·obtain ⟨i,o,rfl⟩:=d r q
   exact ⟨(l i o).1,(l i o).2.1⟩
theorem QCa {t e:TypeId} {n b:Nat} {v:Value} {x:DataW H × List MemPlace} (d:P.underlying t=some (.slice e)) (c:Y6 P n e=true) (h:DataW.trod enc P w base (λ_=>true) held b t [v]=some x):
  ∃a rows,Kn w (P.cellsOf e) v a rows:=by
 obtain ⟨a,rows,k,_⟩:=Y8 d c h
 exact ⟨a,rows,k⟩
end
theorem z1a {z:Int} (h:(Lit.int .i64 z).wf=true):Fit z:=by
 simp[Lit.wf,IntKind.min,IntKind.max,IntKind.bits,IntKind.signed] at h
 unfold Fit
 omega
def jN (r:List Int) (k:Nat):Int:=r.getD k 0
def JN (r:List Int):zF:=(jN r 0,jN r 1)
theorem z2a:∀ {r:List Int},r.length=2->r.map i64=qz (JN r)
 | [_,_],_=>rfl
def kCa (r:List Int):Way:=(jN r 0,jN r 1,jN r 2)
theorem Xua:∀ {r:List Int},r.length=3->r.map i64=ZM (kCa r)
 | [_,_,_],_=>rfl
def kDa (r:List Int):Elt:=((jN r 0,jN r 1),(jN r 2,jN r 3))
theorem Xva:∀ {r:List Int},r.length=4->r.map i64=ZN (kDa r)
 | [_,_,_,_],_=>rfl
theorem Xwa:∀ {r:List Int},r.length=1->r.map i64=zz (jN r 0)
 | [_],_=>rfl
theorem Xw {r:List Int} (h:∀z∈r,(Lit.int .i64 z).wf=true) (k:Nat):Fit (jN r k):=by
 unfold jN
 rw[List.getD_eq_getElem?_getD]
 by_cases a:k<r.length
 ·rw[List.getElem?_eq_getElem a];exact z1a (h _ (List.getElem_mem a))
 ·rw[List.getElem?_eq_none (by omega)];simp[Fit]
theorem ZC {α:Type} {f:List Int->α} {g:α->List AV} {e:Nat} (a:∀ {r:List Int},r.length=e->r.map i64=g (f r)) {rows:List (List Int)} (h:∀r∈rows,r.length=e):rows.map (·.map i64)=(rows.map f).map g:=by
 rw[List.map_map]
 exact List.map_congr_left λr b=>a (h r b)
structure SFit0 (s:Setup):Prop where
 places:Fit s.places
 pace:qj s.pace
 elements:∀e∈s.elements,qj e.1/\qj e.2
 classes:∀p∈s.classes,qj p
 gears:∀p∈s.gears,qj p
 tiers:∀t∈s.tiers,qj t
 nw:s.ways.length<9223372036854775808
 ne:s.elements.length<9223372036854775808
 nc:s.classes.length<9223372036854775808
 ng:s.gears.length<9223372036854775808
 nr:s.rates.length<9223372036854775808
 nt:s.tiers.length<9223372036854775808
theorem SFit0.fit {s:Setup} (f:SFit0 s):SFit s:=⟨f.places,f.pace,f.elements,f.classes,f.gears,f.tiers,f.nw,f.ne,f.nc,f.ng,f.nr,f.nt⟩
theorem SFit0.few {s:Setup} (f:SFit0 s) (h:Wh s=true):SFit s:=by
 simp only[Wh,decide_eq_true_eq] at h
 obtain ⟨c,a,g,b,e,d⟩:=h
 exact ⟨f.places,f.pace,f.elements,f.classes,f.gears,f.tiers,by omega,by omega,by omega,by omega,by omega,by omega⟩
def InSet (w:World) (v:Value):Prop:=∃(s:Setup) (a:SA),AR (c0 w) (z6 s a) v/\SIn [] s a/\SFit0 s
section
variable {H:Type} {enc:TypeId × Value->H} {w:World} {base:Nat} {held:Bool}
theorem Y9 {t e:TypeId} {n b:Nat} {v:Value} {y:Option (DataW H × List MemPlace)} (d:Tryz.prog.underlying t=some (.slice e)) (c:Y6 Tryz.prog n e=true) (h:DataW.trod enc Tryz.prog w base (λ_=>true) held b t [v]=y) (f:y.isSome=true):∃a rows,Kn w (Tryz.prog.cellsOf e) v a rows/\rows.length<=9223372036854775807:=by
 cases y with
 | none=>cases f
 | some y=>exact Y8 d c h
theorem kL {a:Nat} {v:Value} {y:Option (DataW H × List MemPlace)} (h:DataW.trod enc Tryz.prog w base (λ_=>true) held a 3 [v]=y) (d:y.isSome=true):∃z,v= .int .i64 z/\Fit z:=by
 cases y with
 | none=>cases d
 | some y=>
   obtain ⟨z,b,_,c⟩:=DataW.trod_int Tryz.underlying3 h
   injection b with b _
   exact ⟨z,b,z1a c⟩
theorem Vqa {a:Nat} {v0 v1:Value} {y:Option (DataW H × List MemPlace)} (h:DataW.trod enc Tryz.prog w base (λ_=>true) held a 24 [v0,v1]=y) (f:y.isSome=true):∃z0 b,v0= .int .i64 z0/\v1= .int .i64 b/\Fit z0/\Fit b:=by
 cases y with
 | none=>cases f
 | some y=>
   have:=Q3 (n:=2) (by kernel_rfl) h
   obtain ⟨z0,h0,e⟩:=this v0 (by simp)
   obtain ⟨b,c,d⟩:=this v1 (by simp)
   exact ⟨z0,b,h0,c,z1a e,z1a d⟩
set_option maxHeartbeats 1000000 in
set_option maxRecDepth 100000 in
theorem setup_in {r:Reach} {b0:Nat} {v:Value} {d:DataW H} {p:List MemPlace} (hv:Value.okWide Tryz.prog w r b0 30 v) (h:DataW.Trod enc Tryz.prog w base (λ_=>true) held 30 v d p):InSet w v:=by
 simp only[Value.okWide,Tryz.underlying30] at hv
 obtain ⟨cs,rfl,_,_⟩:=hv
 obtain ⟨C,l⟩:=h
 have l:DataW.trod enc Tryz.prog w base (λ_=>true) held C 30 cs.toList=some (d,p):=by simpa [Value.cells] using l
 obtain ⟨xs,n,_,_,T,z,a⟩:=DataW.trod_struct Tryz.underlying30 l
 have η:Tryz.prog.cellsOf 30=23:=by kernel_rfl
 have k3:Tryz.prog.cellsOf 3=1:=by kernel_rfl
 have X:Tryz.prog.cellsOf 22=1:=by kernel_rfl
 have m:Tryz.prog.cellsOf 24=2:=by kernel_rfl
 have ζ:Tryz.prog.cellsOf 25=1:=by kernel_rfl
 have O:Tryz.prog.cellsOf 26=1:=by kernel_rfl
 have ι:Tryz.prog.cellsOf 27=1:=by kernel_rfl
 have U:Tryz.prog.cellsOf 28=1:=by kernel_rfl
 have t:Tryz.prog.cellsOf 205=3:=by kernel_rfl
 have β:Tryz.prog.cellsOf 166=4:=by kernel_rfl
 have V:Tryz.prog.cellsOf 168=2:=by kernel_rfl
 rw[η] at T
 have b:∀j,j<22->(xs[j]?).isSome=true:=λj hj=>by
  have:j<xs.length:=by rw[z];exact hj
  simp[this]
 generalize ε:cs.toList=L at T a
 match L,T with
 | [v0,v1,v2,v3,v4,v5,v6,v7,v8,v9,v10,v11,v12,v13,v14,v15,v16,v17,v18,v19,v20,v21,v22],_=>
   have f0:=a 0 ⟨"Places",3,0,false, "", "",0⟩ rfl
   have f1:=a 1 ⟨"Ways",22,1,false, "", "",8⟩ rfl
   have f2:=a 2 ⟨"Pace",24,2,false, "", "",32⟩ rfl
   have f3:=a 3 ⟨"Elements",25,4,false, "", "",48⟩ rfl
   have f4:=a 4 ⟨"Classes",26,5,false, "", "",72⟩ rfl
   have f5:=a 5 ⟨"Gears",26,6,false, "", "",96⟩ rfl
   have f6:=a 6 ⟨"Allow",3,7,false, "", "",120⟩ rfl
   have f7:=a 7 ⟨"Unit",3,8,false, "", "",128⟩ rfl
   have f8:=a 8 ⟨"Cap",3,9,false, "", "",136⟩ rfl
   have f9:=a 9 ⟨"PaidBreak",3,10,false, "", "",144⟩ rfl
   have q:=a 10 ⟨"AutoAfter",3,11,false, "", "",152⟩ rfl
   have u:=a 11 ⟨"AutoBreak",3,12,false, "", "",160⟩ rfl
   have y:=a 12 ⟨"DayReg",3,13,false, "", "",168⟩ rfl
   have A:=a 13 ⟨"DayOver",3,14,false, "", "",176⟩ rfl
   have f14:=a 14 ⟨"WeekReg",3,15,false, "", "",184⟩ rfl
   have f15:=a 15 ⟨"NightFrom",3,16,false, "", "",192⟩ rfl
   have D:=a 16 ⟨"NightTo",3,17,false, "", "",200⟩ rfl
   have B:=a 17 ⟨"Rates",27,18,false, "", "",208⟩ rfl
   have s:=a 18 ⟨"Diff",3,19,false, "", "",232⟩ rfl
   have x:=a 19 ⟨"Least",3,20,false, "", "",240⟩ rfl
   have f20:=a 20 ⟨"Fault",3,21,false, "", "",248⟩ rfl
   have f21:=a 21 ⟨"Tiers",28,22,false, "", "",256⟩ rfl
   simp only[List.drop_succ_cons,List.drop_zero,List.take_succ_cons,List.take_zero,List.take_nil,k3,X,m,ζ,O,ι,U] at f0 f1 f2 f3 f4 f5 f6 f7 f8 f9 q u y A f14 f15 D B s x f20 f21
   obtain ⟨z0,rfl,g0⟩:=kL f0 (b 0 (by omega))
   obtain ⟨a1,r1,⟨m1,n1,o1⟩,q1⟩:=Y9 Tryz.underlying22 (n:=3) (by kernel_rfl) f1 (b 1 (by omega))
   rw[t] at n1 o1
   obtain ⟨z2,z3,rfl,rfl,g2,g3⟩:=Vqa f2 (b 2 (by omega))
   obtain ⟨a4,r4,⟨m4,n4,N⟩,q4⟩:=Y9 Tryz.underlying25 (n:=3) (by kernel_rfl) f3 (b 3 (by omega))
   rw[β] at n4 N
   obtain ⟨a5,r5,⟨m5,n5,o5⟩,q5⟩:=Y9 Tryz.underlying26 (n:=3) (by kernel_rfl) f4 (b 4 (by omega))
   rw[m] at n5 o5
   obtain ⟨a6,r6,⟨m6,Y,R⟩,q6⟩:=Y9 Tryz.underlying26 (n:=3) (by kernel_rfl) f5 (b 5 (by omega))
   rw[m] at Y R
   obtain ⟨z7,rfl,g7⟩:=kL f6 (b 6 (by omega))
   obtain ⟨z8,rfl,g8⟩:=kL f7 (b 7 (by omega))
   obtain ⟨z9,rfl,g9⟩:=kL f8 (b 8 (by omega))
   obtain ⟨α,rfl,g10⟩:=kL f9 (b 9 (by omega))
   obtain ⟨M,rfl,g11⟩:=kL q (b 10 (by omega))
   obtain ⟨G,rfl,g12⟩:=kL u (b 11 (by omega))
   obtain ⟨S,rfl,g13⟩:=kL y (b 12 (by omega))
   obtain ⟨I,rfl,g14⟩:=kL A (b 13 (by omega))
   obtain ⟨J,rfl,g15⟩:=kL f14 (b 14 (by omega))
   obtain ⟨P,rfl,g16⟩:=kL f15 (b 15 (by omega))
   obtain ⟨θ,rfl,g17⟩:=kL D (b 16 (by omega))
   obtain ⟨κ,F,⟨W,n18,o⟩,ψ⟩:=Y9 Tryz.underlying27 (n:=3) (by kernel_rfl) B (b 17 (by omega))
   rw[k3] at n18 o
   obtain ⟨Z,rfl,g19⟩:=kL s (b 18 (by omega))
   obtain ⟨K,rfl,g20⟩:=kL x (b 19 (by omega))
   obtain ⟨E,rfl,ω⟩:=kL f20 (b 20 (by omega))
   obtain ⟨a22,δ,⟨Q,n22,i⟩,q22⟩:=Y9 Tryz.underlying28 (n:=3) (by kernel_rfl) f21 (b 21 (by omega))
   rw[V] at n22 i
   rw[ZC (f:=kCa) (g:=ZM) Xua λr c=>(o1 r c).1] at n1
   rw[ZC (f:=kDa) (g:=ZN) Xva λr c=>(N r c).1] at n4
   rw[ZC (f:=JN) (g:=qz) z2a λr c=>(o5 r c).1] at n5
   rw[ZC (f:=JN) (g:=qz) z2a λr c=>(R r c).1] at Y
   rw[ZC (f:=(λr=>jN r 0)) (g:=zz) Xwa λr c=>(o r c).1] at n18
   rw[ZC (f:=JN) (g:=qz) z2a λr c=>(i r c).1] at n22
   refine ⟨⟨z0,r1.map kCa,(z2,z3),r4.map kDa,r5.map JN,r6.map JN,z7,z8,z9,α,M,G,S,I,J,P,θ,F.map (λr=>jN r 0),Z,K,E,δ.map JN⟩,⟨a1,a4,a5,a6,κ,a22⟩,⟨cs,rfl,?_⟩,⟨n1,n4,n5,Y,n18,n22⟩,⟨g0,⟨g2,g3⟩,?_,?_,?_,?_,by rw[List.length_map];omega,by rw[List.length_map];omega,by rw[List.length_map];omega,by rw[List.length_map];omega,by rw[List.length_map];omega,by rw[List.length_map];omega⟩⟩
   ·rw[ε]
    exact ⟨_,_,rfl,rfl,⟨_,_,rfl,m1,⟨_,_,rfl,rfl,⟨_,_,rfl,rfl,⟨_,_,rfl,m4,⟨_,_,rfl,m5,⟨_,_,rfl,m6,⟨_,_,rfl,rfl,⟨_,_,rfl,rfl,⟨_,_,rfl,rfl,⟨_,_,rfl,rfl,⟨_,_,rfl,rfl,⟨_,_,rfl,rfl,⟨_,_,rfl,rfl,⟨_,_,rfl,rfl,⟨_,_,rfl,rfl,⟨_,_,rfl,rfl,⟨_,_,rfl,rfl,⟨_,_,rfl,W,⟨_,_,rfl,rfl,⟨_,_,rfl,rfl,⟨_,_,rfl,rfl,⟨_,_,rfl,Q,rfl⟩⟩⟩⟩⟩⟩⟩⟩⟩⟩⟩⟩⟩⟩⟩⟩⟩⟩⟩⟩⟩⟩⟩
   ·intro e k
    obtain ⟨r,c,rfl⟩:=List.mem_map.1 k
    have:=Xw (N r c).2
    exact ⟨⟨this 0,this 1⟩,this 2,this 3⟩
   ·intro e k
    obtain ⟨r,c,rfl⟩:=List.mem_map.1 k
    have:=Xw (o5 r c).2
    exact ⟨this 0,this 1⟩
   ·intro e k
    obtain ⟨r,c,rfl⟩:=List.mem_map.1 k
    have:=Xw (R r c).2
    exact ⟨this 0,this 1⟩
   ·intro e k
    obtain ⟨r,c,rfl⟩:=List.mem_map.1 k
    have:=Xw (i r c).2
    exact ⟨this 0,this 1⟩
end
theorem run_law {f:FuncId} {args:List AV} {vs:List Value} {w:World} (c:ACalls Tryz.prog f args [] λr h'=>r=bl true/\h'=[]) (k:ARs (c0 w) args vs):Calls Tryz.prog f vs.toArray w λe w'=>e= .returned (.bool true)/\Below w.heap.size w w':=by
 have h:fill (λ_=> .res) ([]:List Ob)=[]:=Yc
 have g:HOk w.heap.size w gN []:=⟨λi o a=>(by cases a),λi j o p b _ a=>(by cases a)⟩
 refine (c.2.2 (λ_=> .res) (λ_ _=>rfl) w.heap.size w gN vs (by rw[h];exact g) (Nat.le_refl _) (by rw[h];exact k)).mono ?_
 rintro e w' ⟨v,r,h',g',rfl,⟨rfl,rfl⟩,_,l,d⟩
 have d:v= .bool true:=d
 subst d
 exact ⟨rfl,l.below⟩
end Go.Proofs.YtfmldcilgbbimaaGreat.Ax
