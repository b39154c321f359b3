import Derived.Test.YtigdlmpjijhpaaaGreatBA
import Derived.Test.YtigdlmpjijhpaaaGreatB22
import Derived.Test.YtigdlmpjijhpaaaGreatB21
import Derived.Test.YtigdlmpjijhpaaaGreatB14
import Derived.Deep.SlicePairs
import Derived.WideShapes
import Derived.ChangeShapes
import Derived.Test.YtigdlmpjijhpaaaGreatB20
set_option linter.all false
namespace Go.Proofs.YtigdlmpjijhpaaaGreat.Ax
open Go Go.Proofs
set_option maxRecDepth 100000
attribute [go_sem] WOa WSa
theorem New.of{h h':List Ob}{e:Nat}{x:AV}{rows:List (List AV)}{L L2:List Ob}(a:h'=h++L)(k:New h' e x rows L2):New h e x rows (L++L2):=λb c=>by
 have:=k (b++L) (by rw[a];simp[c])
 rwa[zp] at this
theorem NoRes.app{L M:List Ob}(a:NoRes L)(b:NoRes M):NoRes (L++M):=λo c=>by
 rcases zJ.1 c with h|h
 ·exact a o h
 ·exact b o h
theorem c67(g:Seg):xw Tryz.prog 72 [.ag (kG g)] (bl true):=λh=>by
 refine zj Tryz.f72 [.tmp 2] 3 rfl rfl rfl rfl rfl rfl (by decide) (⟨_,_,⟨rfl,rfl⟩,.refl⟩) λB=>?_
 simp only[go_sem]
 refine zm ?_<;>(simp only[go_sem]<;>try rfl)
theorem c68(h:List Ob)(i:Nat)(g:Seg)(k:Int)(hi:h[i]? =some (.box 3 [i64 k])):ACalls Tryz.prog 285 [.ag (kG g),.ptr i 0] h λr h'=>r=bl (g.kind==k)/\h'=h:=by
 have a:∀M,(h++M)[i]? =some (.box 3 [i64 k]):=λM=>zf hi
 refine zj Tryz.f285 [.tmp 3] 8 rfl rfl rfl rfl rfl rfl (by decide) (⟨_,_,⟨rfl,rfl⟩,.refl⟩) λB=>?_
 simp only[go_sem,a]
 refine zm ?_<;>(simp only[go_sem]<;>try rfl)
def vZ(p:Seg->Bool)(l:List Seg):List Spn:=(l.filter p).map spS
theorem x7a(p:Seg->Bool)(l:List Seg)(g:Seg):vZ p (l++[g])=if p g then vZ p l++[spS g] else vZ p l:=by
 unfold vZ
 rw[q8,zy]
 cases h:p g<;>simp[h]
theorem YT(p:Seg->Bool)(l:List Seg):(vZ p l).length<=l.length:=by
 unfold vZ
 rw[zb]
 exact qo p l
set_option maxHeartbeats 1000000 in
theorem c66(h:List Ob)(x:AV)(f:FuncId)(cs:List AV)(l:List Seg)(p:Seg->Bool)(K:SlOf h x 5 (l.map kG))(X:l.length<1048576)(P:∀g∈l,∀L,ACalls Tryz.prog f ([.ag (kG g)]++cs) (h++L) λr h'=>r=bl (p g)/\h'=h++L):
  ACalls Tryz.prog 71 [x,.fn (.func f) [] cs] h λr h'=>∃L,h'=h++L/\NoRes L/\New h 2 r ((qw (vZ p l)).map qE) L:=by
 have hex:∃r h',(∃L,h'=h++L/\NoRes L/\New h 2 r ((qw (vZ p l)).map qE) L)/\ResK h h':=
  ⟨.sl 2 _,_,⟨[],rfl,jf,λ_ _=>⟨rfl,λ_=>rfl⟩⟩,qS⟩
 refine zj Tryz.f71 [.tmp 4] 29 rfl rfl rfl rfl rfl rfl (by decide) (hex) λB=>?_
 simp only[go_sem,K.rows,zb]
 refine zP (by decide) (λm T h'=>∃k:Nat,k<=l.length/\Pre h h'/\OwnS h h' 143 2 (T 5) ((vZ p (l.take k)).map qE)/\T 1= .fn (.func f) [] cs/\T 8=x/\T 9=i64 l.length/\T 10=i64 k/\m=l.length - k) l.length
  ⟨0,by omega,Pre.refl,.inl ⟨by simp only[go_sem],rfl⟩,by simp only[go_sem],by simp only[go_sem],by simp only[go_sem],by(simp only[go_sem]<;>rfl),rfl⟩ ?_
 rintro m T h' ⟨k,V,b,z,t1,t8,t9,t10,rfl⟩
 simp only[go_sem,t9,t10]
 refine ways (λe=>?_) (λe=>?_)
 ·have d:=dlt e
  obtain⟨s,rfl,t⟩:=b
  have q:SlOf (h++s) x 5 (l.map kG):=K.app _
  have D:=q.at (i:=k) (by simpa using d)
  have j:(l.map kG)[k]? =some (kG l[k]):=by rw[zx,zi d];rfl
  have C:(k:Int)<l.length:=by omega
  have a:=x7a p (l.take k) l[k]
  rw[zI d] at a
  have n:l[k]∈l:=zD d
  obtain⟨y,O⟩:∃y,y=l[k]:=⟨_,rfl⟩
  rw[<-O] at j a n
  have fin:k+1<=l.length:=by omega
  have W:List.length (kG y)=5:=rfl
  have c:=P y n (s++[.box 146 (kG y)])
  rw[<-zp] at c
  have b:Pre h (h++s):=⟨s,rfl,t⟩
  generalize h++s=h' at*
  simp only[go_sem,t8,t10,t1,D,q.rows,j,C,zb,Int.toNat_natCast,zh]
  refine zg c ?_
  rintro _ U ⟨rfl,N⟩
  subst N
  simp only[go_sem]
  refine ways (λw=>?_) (λw=>?_)
  ·rw[w] at a
   simp only[if_true] at a
   rcases z with⟨t5,u⟩|⟨id,st,A,t5,H⟩
   ·simp only[go_sem,t5,t10]
    refine⟨l.length - (k+1),by omega,k+1,fin,b.app (zr rfl (zr rfl (zG rfl))),.inr ⟨_,_,by have:=b.len;omega,rfl,?_⟩,t1,t8,t9,qm (by omega) rfl,rfl⟩
    rw[a,zy,u,zK rfl]
    rfl
   ·have E:(((vZ p (l.take k)).map qE).length+1)*17<=140737488355328:=by
     have:=YT p (l.take k)
     rw[qa] at this
     rw[zb];omega
    have J:∀M,(h'++M)[id]? =some (.row 143 2 ((vZ p (l.take k)).map qE) st):=λM=>zf H
    simp only[go_sem,t5,t10,J,E]
    refine⟨l.length - (k+1),by omega,k+1,fin,(b.app (zr rfl (zG rfl))).set A rfl,.inr ⟨id,st+1,A,rfl,?_⟩,t1,t8,t9,qm (by omega) rfl,rfl⟩
    rw[a,zy]
    exact zq (J _)
  ·have w:p y=false:=by simpa using w
   rw[w] at a
   simp only[Bool.false_eq_true,if_false] at a
   simp only[go_sem,t10]
   exact⟨l.length - (k+1),by omega,k+1,fin,b.app (zG rfl),by rw[a];exact z.app _,t1,t8,t9,qm (by omega) rfl,rfl⟩
 ·have R:=xb e
  have G:k=l.length:=by omega
  subst G
  rw[zZ] at z
  have S:=YT p l
  rcases z with⟨t5,u⟩|⟨id,st,A,t5,H⟩
  ·have u:vZ p l=[]:=by simpa using u
   simp only[go_sem,t5]
   refine zg (xqb _) ?_
   rintro _ F ⟨rfl,Q⟩
   subst Q
   simp only[go_sem]
   refine zg (c65 _ (.v (.slice none 0 0)) [] ⟨rfl,λh=>absurd rfl h⟩ (by simp)) ?_
   rintro r F ⟨L2,rfl,n1,n2⟩
   simp only[go_sem]
   obtain⟨L,rfl,t⟩:=b
   exact⟨r,by simp only[go_sem],.inl ⟨L++L2,by simp,t.app n1,by rw[u];exact n2.of rfl⟩⟩
  ·simp only[go_sem,t5]
   refine zg (c96 _ id st _ H) ?_
   rintro _ F ⟨rfl,rfl⟩
   simp only[go_sem]
   refine zg (c65 _ (.sl 2 ((vZ p l).map qE)) (vZ p l) ⟨rfl,λ_=>rfl⟩ (by omega)) ?_
   rintro r F ⟨L2,rfl,n1,n2⟩
   simp only[go_sem]
   have b:=b.set (o:= .gone) A rfl
   obtain⟨L,I,t⟩:=b
   exact⟨r,by simp only[go_sem],.inl ⟨L++L2,by rw[I];simp,t.app n1,n2.of I⟩⟩
def ja(l:List Seg):List Spn:=qw (l.map spS)
def wC(l:List Seg)(k:Int):List Spn:=qw ((l.filter λg=>g.kind==k).map spS)
theorem c31(h:List Ob)(x:AV)(l:List Seg)(b:SlOf h x 5 (l.map kG))(c:l.length<1048576):
  ACalls Tryz.prog 23 [x] h λr h'=>∃L,h'=h++L/\NoRes L/\New h 2 r ((ja l).map qE) L:=by
 have hex:∃r h',(∃L,h'=h++L/\NoRes L/\New h 2 r ((ja l).map qE) L)/\ResK h h':=
  ⟨.sl 2 _,_,⟨[],rfl,jf,λ_ _=>⟨rfl,λ_=>rfl⟩⟩,qS⟩
 have a:vZ (λ_=>true) l=l.map spS:=by unfold vZ;rw[YJ λ_ _=>rfl]
 refine zj Tryz.f23 [.tmp 2] 5 rfl rfl rfl rfl rfl rfl (by decide) (hex) λB=>?_
 simp only[go_sem]
 refine zg (c66 h x 72 [] l (λ_=>true) b c λg _ L=>c67 g _) ?_
 rintro r d ⟨L2,rfl,n1,n2⟩
 simp only[go_sem]
 exact⟨r,by simp only[go_sem],.inl ⟨L2,rfl,n1,by rw[a] at n2;exact n2⟩⟩
theorem c32(h:List Ob)(x:AV)(l:List Seg)(k:Int)(a:SlOf h x 5 (l.map kG))(b:l.length<1048576):
  ACalls Tryz.prog 243 [x,i64 k] h λr h'=>∃L,h'=h++L/\NoRes L/\New h 2 r ((wC l k).map qE) L:=by
 have hex:∃r h',(∃L,h'=h++L/\NoRes L/\New h 2 r ((wC l k).map qE) L)/\ResK h h':=
  ⟨.sl 2 _,_,⟨[],rfl,jf,λ_ _=>⟨rfl,λ_=>rfl⟩⟩,qS⟩
 refine zj Tryz.f243 [.tmp 4] 8 rfl rfl rfl rfl rfl rfl (by decide) (hex) λB=>?_
 simp only[go_sem]
 refine zg (c66 _ x 285 [.ptr h.length 0] l (λg=>g.kind==k) (a.app _) b λg _ L=>c68 _ _ g k (by rw[zp,zM rfl];rfl)) ?_
 rintro r c ⟨L2,rfl,n1,n2⟩
 simp only[go_sem]
 exact⟨r,by simp only[go_sem],.inl ⟨_,rfl,zr rfl n1,n2.of rfl⟩⟩
theorem wda(l:List Spn)(x:Spn):jK (l++[x])=jK l+(x.to_ - x.from_):=by simp[jK]
theorem YU{l:List Spn}(a:∀s∈l,0<=s.from_/\s.from_<s.to_/\s.to_<=32054400):0<=jK l/\jK l<=32054400*l.length:=by
 induction l with
 | nil=>simp[jK]
 | cons x l b=>
   have:=b λs h=>a s (.tail _ h)
   have:=a x (.head _)
   simp only[jK,List.map_cons,List.sum_cons,List.length_cons] at*
   omega
theorem c30(h:List Ob)(x:AV)(l:List Spn)(D:SlOf h x 2 (l.map qE))(J:l.length<1048576):
  ACalls Tryz.prog 22 [x] h λr h'=>r=i64 (jK (qw l))/\h'=h:=by
 have f:= @vk l
 have g:=qh l
 obtain⟨n,z⟩:∃n,n=qw l:=⟨_,rfl⟩
 rw[<-z] at f g
 refine zj Tryz.f22 [.tmp 2] 21 rfl rfl rfl rfl rfl rfl (by decide) (⟨_,_,⟨rfl,rfl⟩,.refl⟩) λB=>?_
 simp only[go_sem]
 refine zg (c65 _ x l D (by omega)) ?_
 rintro r H ⟨L2,rfl,n1,n2⟩
 rw[<-z] at n2⊢
 have v:SlOf (h++L2) r 2 (n.map qE):=n2 h rfl
 simp only[go_sem,v.rows,zb]
 refine zP (by decide) (λm T h'=>∃k:Nat,k<=n.length/\Pre (h++L2) h'/\T 2=i64 (jK (n.take k))/\T 6=r/\T 7=i64 n.length/\T 8=i64 k/\m=n.length - k) n.length
  ⟨0,by omega,Pre.refl,by(simp only[go_sem]<;>rfl),by simp only[go_sem],by simp only[go_sem],by(simp only[go_sem]<;>rfl),rfl⟩ ?_
 rintro m T h' ⟨k,G,a,t2,t6,w,t8,rfl⟩
 simp only[go_sem,w,t8]
 refine ways (λe=>?_) (λe=>?_)
 ·have b:=dlt e
  have j:=a.sl v
  have t:=j.at (i:=k) (by simpa using b)
  have c:(n.map qE)[k]? =some (qE n[k]):=by rw[zx,zi b];rfl
  have o:(k:Int)<n.length:=by omega
  have d:=wda (n.take k) n[k]
  rw[zI b] at d
  have q:=YU (l:=n.take k) λs h=>f s (List.mem_of_mem_take h)
  have p:=f _ (zD b)
  rw[qa] at q
  obtain⟨y,A⟩:∃y,y=n[k]:=⟨_,rfl⟩
  rw[<-A] at c d p
  have I:List.length (qE y)=2:=rfl
  simp only[go_sem,t2,t6,t8,t,j.rows,c,o,zb,Int.toNat_natCast,zh]
  refine⟨n.length - (k+1),by omega,k+1,by omega,a.app (zG rfl),?_,w,qm (by omega) rfl,rfl⟩
  rw[d]
  show i64 (wr (jK (n.take k)+wr (y.to_ - y.from_)))=_
  rw[qp (n:=y.to_ - y.from_) (by unfold Fit;omega),qp (by unfold Fit;omega)]
 ·have C:=xb e
  have u:k=n.length:=by omega
  subst u
  rw[zZ] at t2
  obtain⟨F,rfl,E⟩:=a
  rw[zp]
  simp only[go_sem,t2]
  refine zm ?_<;>(simp only[go_sem]<;>try rfl)
attribute [go_sem] KHa KIa Q2a Zla Q3a Yja
def s0:Setup:=⟨1,[],(1,1),[((1,1),(1,1))],[(1,1)],[(1,1)],0,900,3600,0,0,0,0,0,0,0,0,[1],0,0,0,[]⟩
def f0:List Flg:=[⟨4,3⟩,⟨5,1⟩]
def a0(n:Nat):SA:=⟨.v (.slice none 0 0),.tl (n+1) 0,.tl (n+2) 0,.tl (n+3) 0,.tl (n+4) 0,.v (.slice none 0 0)⟩
theorem yW{h:List Ob}{id ty e st:Nat}{xs:List (List AV)}(k:h[id]? =some (.row ty e xs st)):SlOf h (.tl id st) e xs:=⟨by rw[qU,k,kQ,if_pos rfl],λ_=>by rw[jI,k,vT]⟩
theorem JV{h:List Ob}{e:Nat}:SlOf h (.v (.slice none 0 0)) e []:=⟨rfl,λh=>absurd rfl h⟩
end Go.Proofs.YtigdlmpjijhpaaaGreat.Ax
namespace Go.Proofs.YtigdlmpjijhpaaaGreat.Ax
open Go Go.RowKit Go.ChangeShapes Go.WideShapes
section
variable {H:Type} {enc:TypeId × Value->H} {P:Program} {w:World} {base:Nat} {held:Bool}
def q7a(P:Program):Nat->TypeId->Bool
 | 0,_=>false
 | n+1,t=>match P.underlying t with
   | some (.int .i64)=>true
   | some (.struct a)=>(List.range (P.cellsOf t)).all λk=>a.toList.any λf=>q7a P n f.type && (decide (f.offset<=k) && decide (k<f.offset+P.cellsOf f.type))
   | _=>false
theorem V2{spare:Nat->Bool}:∀(n:Nat) {t:TypeId} {a:Nat} {cs:List Value} {x:DataW H × List MemPlace},q7a P n t=true->DataW.trod enc P w base spare held a t cs=some x->∀v∈cs,∃z,v= .int .i64 z/\(Lit.int .i64 z).wf=true
 | 0,_,_,_,_,h,_=>by cases h
 | n+1,t,a,cs,x,h,p=>by
   unfold q7a at h
   split at h
   ·rename_i m
    obtain⟨z,rfl,_,r⟩:=DataW.trod_int m p
    intro v d
    simp at d
    exact⟨z,d,r⟩
   ·rename_i b m
    obtain⟨xs,n',_,_,C,o,s⟩:=DataW.trod_struct m p
    intro v d
    obtain⟨k,y,rfl⟩:=List.mem_iff_getElem.1 d
    have i:=zR.1 h k (qT.2 (by omega))
    obtain⟨f,g,c⟩:=List.any_eq_true.1 i
    simp only[zl,decide_eq_true_eq] at c
    obtain⟨e,q,u⟩:=c
    obtain⟨j,B,rfl⟩:=List.mem_iff_getElem.1 g
    have l:j<b.size:=by simpa using B
    have:=s j _ (by rw[zW l])
    rw[zi (by omega)] at this
    refine V2 n e this _ ?_
    rw[List.mem_iff_getElem?]
    refine⟨k - b.toList[j].offset,?_⟩
    have A:b[j]=b.toList[j]:=by simp
    rw[A,jr,if_pos (by omega),List.getElem?_drop,show b.toList[j].offset+(k - b.toList[j].offset)=k by omega,zi y]
   ·cases h
abbrev gN:Gh:=⟨λ_=>0,λ_=>undef⟩
abbrev c0(w:World):Ctx:=ctx w gN []
theorem rd0{a:Addr}{u:Value}(h:w.cell? a=some u):(c0 w).rd a u:=⟨λ⟨i,o,hi,_⟩=>(by cases hi),h⟩
theorem q8a{c:Ctx}{A:Addr}:∀(a:List Int) (k:Nat),(∀j z,a[j]? =some z->c.rd (A.add (k+j)) (.int .i64 z))->ACells c (some A) k (a.map i64)
 | [],_,_=>trivial
 | z::a,k,h=>by
   refine⟨⟨A,_,rfl,by simpa using h 0 z rfl,rfl⟩,q8a a (k+1) λj d b=>?_⟩
   have:=h (j+1) d (by simpa using b)
   rwa[show k+(j+1)=k+1+j by omega] at this
theorem k4a{c:Ctx}{A:Addr}{e:Nat}:∀(rows:List (List Int)) (i:Nat),(∀r∈rows,r.length=e)->(∀j r,rows[j]? =some r->∀k z,r[k]? =some z->c.rd (A.add ((i+j)*e+k)) (.int .i64 z))->ARows c (some A) e i (rows.map (·.map i64))
 | [],_,_,_=>trivial
 | r::rows,i,f,d=>by
   refine⟨⟨by simpa using f r (.head _),q8a r (i*e) λk z b=>by simpa using d 0 r rfl k z b⟩,k4a rows (i+1) (λq a=>f q (.tail _ a)) λj q a k z b=>?_⟩
   have:=d (j+1) q (by simpa using a) k z b
   rwa[show i+(j+1)=i+1+j by omega] at this
def V3(w:World)(e:Nat)(v:Value)(a:AV)(rows:List (List Int)):Prop:=
 AR (c0 w) a v/\SlOf [] a e (rows.map (·.map i64))/\∀r∈rows,r.length=e/\∀z∈r,(Lit.int .i64 z).wf=true
theorem q9a{t e:TypeId}{n y:Nat}{v:Value}{x:DataW H × List MemPlace}(L:P.underlying t=some (.slice e))(A:q7a P n e=true)(h:DataW.trod enc P w base (λ_=>true) held y t [v]=some x):
  ∃a rows,V3 w (P.cellsOf e) v a rows/\rows.length<=maxLen:=by
 rcases Go.Deep.open_slice L h with⟨b,_⟩|⟨a,len,cap,m,n',D,N,b,Q,M,O,F,rfl,K⟩
 ·injection b with b _
  subst b
  exact⟨.v (.slice none 0 0),[],⟨rfl,⟨rfl,λh=>absurd rfl h⟩,λ_ h=>by cases h⟩,Nat.zero_le _⟩
 ·injection b with b _
  subst b
  have each:∀i,i<len->∃r:List Int,r.length=P.cellsOf e/\(∀z∈r,(Lit.int .i64 z).wf=true)/\∀k z,r[k]? =some z->w.cell? (a.add (i*P.cellsOf e+k))=some (.int .i64 z):=by
   intro i hi
   obtain⟨cs',I,J⟩:=K i (by rw[F];simp;omega)
   obtain⟨_,d,p⟩:=World.cells?_some I
   have u:=V2 n A J
   have key:∀k,∃z:Int,k<cs'.length->cs'[k]? =some (.int .i64 z)/\(Lit.int .i64 z).wf=true:=λk=>by
    by_cases c:k<cs'.length
    ·obtain⟨z,C,E⟩:=u cs'[k] (zD c)
     exact⟨z,λ_=>⟨by rw[zi c,C],E⟩⟩
    ·exact⟨0,λh=>absurd h c⟩
   obtain⟨f,o⟩:=Classical.axiomOfChoice key
   refine⟨(List.range (P.cellsOf e)).map f,by simp,λz B=>?_,λk z c=>?_⟩
   ·obtain⟨k,c,rfl⟩:=zw.1 B
    exact(o k (by have:=qT.1 c;omega)).2
   ·have q:k<P.cellsOf e:=by have:=(zd.1 c).1;simpa using this
    have B:f k=z:=by simpa [q] using c
    rw[<-Addr.add_add,p k q,(o k (by omega)).1,B]
  have:∃f:Nat->List Int,∀i,i<len->(f i).length=P.cellsOf e/\(∀z∈f i,(Lit.int .i64 z).wf=true)/\∀k z,(f i)[k]? =some z->w.cell? (a.add (i*P.cellsOf e+k))=some (.int .i64 z):=Go.Deep.choose_lt each
  obtain⟨f,o⟩:=this
  have d:((List.range len).map f).length=len:=by simp
  have g:∀r∈(List.range len).map f,∃i,i<len/\f i=r:=λr l=>by
   obtain⟨i,hi,e⟩:=zw.1 l
   exact⟨i,qT.1 hi,e⟩
  refine⟨.sl (P.cellsOf e) (((List.range len).map f).map (·.map i64)),(List.range len).map f,⟨⟨some a,cap,by simp,by simpa using M,?_⟩,⟨rfl,λ_=>rfl⟩,λr l=>?_⟩,by rw[d];omega⟩
  ·refine k4a _ 0 (λr l=>?_) λj r G k z c=>?_
   ·obtain⟨i,hi,rfl⟩:=g r l
    exact(o i hi).1
   ·have s:j<len:=by have:=(zd.1 G).1;simpa using this
    have l:f j=r:=by simpa [s] using G
    rw[Nat.zero_add]
    exact rd0 ((o j s).2.2 k z (by rw[l];exact c))
  ·obtain⟨i,hi,rfl⟩:=g r l
   exact⟨(o i hi).1,(o i hi).2.1⟩
theorem X7a{t e:TypeId}{n b:Nat}{v:Value}{x:DataW H × List MemPlace}(d:P.underlying t=some (.slice e))(c:q7a P n e=true)(h:DataW.trod enc P w base (λ_=>true) held b t [v]=some x):
  ∃a rows,V3 w (P.cellsOf e) v a rows:=by
 obtain⟨a,rows,k,_⟩:=q9a d c h
 exact⟨a,rows,k⟩
end
theorem j6a{z:Int}(h:(Lit.int .i64 z).wf=true):Fit z:=by
 simp[Lit.wf,IntKind.min,IntKind.max,IntKind.bits,IntKind.signed] at h
 unfold Fit
 omega
def km(r:List Int)(k:Nat):Int:=r.getD k 0
def Ki(r:List Int):qt:=(km r 0,km r 1)
theorem j7a:∀ {r:List Int},r.length=2->r.map i64=jP (Ki r)
 | [_,_],_=>rfl
def wWa(r:List Int):Way:=(km r 0,km r 1,km r 2)
theorem Wka:∀ {r:List Int},r.length=3->r.map i64=XW (wWa r)
 | [_,_,_],_=>rfl
def wXa(r:List Int):Elt:=((km r 0,km r 1),(km r 2,km r 3))
theorem Wla:∀ {r:List Int},r.length=4->r.map i64=XX (wXa r)
 | [_,_,_,_],_=>rfl
theorem Wma:∀ {r:List Int},r.length=1->r.map i64=qB (km r 0)
 | [_],_=>rfl
theorem K9{r:List Int}(h:∀z∈r,(Lit.int .i64 z).wf=true)(k:Nat):Fit (km r k):=by
 unfold km
 rw[zT]
 by_cases a:k<r.length
 ·rw[zi a];exact j6a (h _ (zD a))
 ·rw[qA (by omega)];simp[Fit]
theorem Q9{α:Type}{f:List Int->α}{g:α->List AV}{e:Nat}(a:∀ {r:List Int},r.length=e->r.map i64=g (f r)){rows:List (List Int)}(h:∀r∈rows,r.length=e):rows.map (·.map i64)=(rows.map f).map g:=by
 rw[vi]
 exact List.map_congr_left λr b=>a (h r b)
structure SFit0 (s:Setup):Prop where
 places:Fit s.places
 pace:jo s.pace
 elements:∀e∈s.elements,jo e.1/\jo e.2
 classes:∀p∈s.classes,jo p
 gears:∀p∈s.gears,jo p
 tiers:∀t∈s.tiers,jo t
 nw:s.ways.length<9223372036854775808
 ne:s.elements.length<9223372036854775808
 nc:s.classes.length<9223372036854775808
 ng:s.gears.length<9223372036854775808
 nr:s.rates.length<9223372036854775808
 nt:s.tiers.length<9223372036854775808
theorem SFit0.fit{s:Setup}(f:SFit0 s):SFit s:=⟨f.places,f.pace,f.elements,f.classes,f.gears,f.tiers,f.nw,f.ne,f.nc,f.ng,f.nr,f.nt⟩
theorem SFit0.few{s:Setup}(f:SFit0 s)(h:jRa s=true):SFit s:=by
 simp only[jRa,decide_eq_true_eq] at h
 obtain⟨c,b,e,d,g,a⟩:=h
 exact⟨f.places,f.pace,f.elements,f.classes,f.gears,f.tiers,by omega,by omega,by omega,by omega,by omega,by omega⟩
def InSet(w:World)(v:Value):Prop:=∃(s:Setup) (a:SA),AR (c0 w) (je s a) v/\SIn [] s a/\SFit0 s
section
variable {H:Type} {enc:TypeId × Value->H} {w:World} {base:Nat} {held:Bool}
theorem jaa{t e:TypeId}{n b:Nat}{v:Value}{y:Option (DataW H × List MemPlace)}(d:Tryz.prog.underlying t=some (.slice e))(c:q7a Tryz.prog n e=true)(h:DataW.trod enc Tryz.prog w base (λ_=>true) held b t [v]=y)(f:y.isSome=true):∃a rows,V3 w (Tryz.prog.cellsOf e) v a rows/\rows.length<=9223372036854775807:=by
 cases y with
 | none=>cases f
 | some y=>exact q9a d c h
theorem wA{a:Nat}{v:Value}{y:Option (DataW H × List MemPlace)}(h:DataW.trod enc Tryz.prog w base (λ_=>true) held a 3 [v]=y)(d:y.isSome=true):∃z,v= .int .i64 z/\Fit z:=by
 cases y with
 | none=>cases d
 | some y=>
   obtain⟨z,b,_,c⟩:=DataW.trod_int Tryz.underlying3 h
   injection b with b _
   exact⟨z,b,j6a c⟩
theorem zsb{a:Nat}{v0 v1:Value}{y:Option (DataW H × List MemPlace)}(h:DataW.trod enc Tryz.prog w base (λ_=>true) held a 24 [v0,v1]=y)(d:y.isSome=true):∃z0 b,v0= .int .i64 z0/\v1= .int .i64 b/\Fit z0/\Fit b:=by
 cases y with
 | none=>cases d
 | some y=>
   have:=V2 (n:=2) (by kernel_rfl) h
   obtain⟨z0,h0,e⟩:=this v0 (by simp)
   obtain⟨b,c,f⟩:=this v1 (by simp)
   exact⟨z0,b,h0,c,j6a e,j6a f⟩
set_option maxHeartbeats 1000000 in
set_option maxRecDepth 100000 in
theorem setup_in{r:Reach}{b0:Nat}{v:Value}{d:DataW H}{p:List MemPlace}(hv:Value.okWide Tryz.prog w r b0 30 v)(h:DataW.Trod enc Tryz.prog w base (λ_=>true) held 30 v d p):InSet w v:=by
 simp only[Value.okWide,Tryz.underlying30] at hv
 obtain⟨cs,rfl,_,_⟩:=hv
 obtain⟨q,i⟩:=h
 have i:DataW.trod enc Tryz.prog w base (λ_=>true) held q 30 cs.toList=some (d,p):=by simpa [Value.cells] using i
 obtain⟨xs,n,_,_,U,z,a⟩:=DataW.trod_struct Tryz.underlying30 i
 have O:Tryz.prog.cellsOf 30=23:=by kernel_rfl
 have k3:Tryz.prog.cellsOf 3=1:=by kernel_rfl
 have η:Tryz.prog.cellsOf 22=1:=by kernel_rfl
 have l:Tryz.prog.cellsOf 24=2:=by kernel_rfl
 have R:Tryz.prog.cellsOf 25=1:=by kernel_rfl
 have ι:Tryz.prog.cellsOf 26=1:=by kernel_rfl
 have P:Tryz.prog.cellsOf 27=1:=by kernel_rfl
 have ε:Tryz.prog.cellsOf 28=1:=by kernel_rfl
 have t:Tryz.prog.cellsOf 225=3:=by kernel_rfl
 have γ:Tryz.prog.cellsOf 183=4:=by kernel_rfl
 have V:Tryz.prog.cellsOf 185=2:=by kernel_rfl
 rw[O] at U
 have b:∀j,j<22->(xs[j]?).isSome=true:=λj hj=>by
  have:j<xs.length:=by rw[z];exact hj
  simp[this]
 generalize δ:cs.toList=L at U a
 match L,U with
 | [v0,v1,v2,v3,v4,v5,v6,v7,v8,v9,v10,v11,v12,v13,v14,v15,χ,v17,v18,v19,v20,v21,v22],_=>
   have f0:=a 0 ⟨"Places",3,0,false, "", "",0⟩ rfl
   have f1:=a 1 ⟨"Ways",22,1,false, "", "",8⟩ rfl
   have f2:=a 2 ⟨"Pace",24,2,false, "", "",32⟩ rfl
   have f3:=a 3 ⟨"Elements",25,4,false, "", "",48⟩ rfl
   have f4:=a 4 ⟨"Classes",26,5,false, "", "",72⟩ rfl
   have f5:=a 5 ⟨"Gears",26,6,false, "", "",96⟩ rfl
   have f6:=a 6 ⟨"Allow",3,7,false, "", "",120⟩ rfl
   have f7:=a 7 ⟨"Unit",3,8,false, "", "",128⟩ rfl
   have f8:=a 8 ⟨"Cap",3,9,false, "", "",136⟩ rfl
   have f9:=a 9 ⟨"PaidBreak",3,10,false, "", "",144⟩ rfl
   have B:=a 10 ⟨"AutoAfter",3,11,false, "", "",152⟩ rfl
   have o:=a 11 ⟨"AutoBreak",3,12,false, "", "",160⟩ rfl
   have A:=a 12 ⟨"DayReg",3,13,false, "", "",168⟩ rfl
   have s:=a 13 ⟨"DayOver",3,14,false, "", "",176⟩ rfl
   have f14:=a 14 ⟨"WeekReg",3,15,false, "", "",184⟩ rfl
   have f15:=a 15 ⟨"NightFrom",3,16,false, "", "",192⟩ rfl
   have u:=a 16 ⟨"NightTo",3,17,false, "", "",200⟩ rfl
   have C:=a 17 ⟨"Rates",27,18,false, "", "",208⟩ rfl
   have D:=a 18 ⟨"Diff",3,19,false, "", "",232⟩ rfl
   have y:=a 19 ⟨"Least",3,20,false, "", "",240⟩ rfl
   have f20:=a 20 ⟨"Fault",3,21,false, "", "",248⟩ rfl
   have f21:=a 21 ⟨"Tiers",28,22,false, "", "",256⟩ rfl
   simp only[List.drop_succ_cons,List.drop_zero,List.take_succ_cons,List.take_zero,List.take_nil,k3,η,l,R,ι,P,ε] at f0 f1 f2 f3 f4 f5 f6 f7 f8 f9 B o A s f14 f15 u C D y f20 f21
   obtain⟨z0,rfl,g0⟩:=wA f0 (b 0 (by omega))
   obtain⟨a1,r1,⟨m1,n1,o1⟩,q1⟩:=jaa Tryz.underlying22 (n:=3) (by kernel_rfl) f1 (b 1 (by omega))
   rw[t] at n1 o1
   obtain⟨z2,z3,rfl,rfl,g2,g3⟩:=zsb f2 (b 2 (by omega))
   obtain⟨a4,r4,⟨m4,n4,Q⟩,q4⟩:=jaa Tryz.underlying25 (n:=3) (by kernel_rfl) f3 (b 3 (by omega))
   rw[γ] at n4 Q
   obtain⟨a5,r5,⟨m5,n5,o5⟩,q5⟩:=jaa Tryz.underlying26 (n:=3) (by kernel_rfl) f4 (b 4 (by omega))
   rw[l] at n5 o5
   obtain⟨a6,r6,⟨m6,J,T⟩,q6⟩:=jaa Tryz.underlying26 (n:=3) (by kernel_rfl) f5 (b 5 (by omega))
   rw[l] at J T
   obtain⟨z7,rfl,g7⟩:=wA f6 (b 6 (by omega))
   obtain⟨z8,rfl,g8⟩:=wA f7 (b 7 (by omega))
   obtain⟨z9,rfl,g9⟩:=wA f8 (b 8 (by omega))
   obtain⟨F,rfl,g10⟩:=wA f9 (b 9 (by omega))
   obtain⟨κ,rfl,g11⟩:=wA B (b 10 (by omega))
   obtain⟨α,rfl,ψ⟩:=wA o (b 11 (by omega))
   obtain⟨M,rfl,g13⟩:=wA A (b 12 (by omega))
   obtain⟨S,rfl,g14⟩:=wA s (b 13 (by omega))
   obtain⟨G,rfl,g15⟩:=wA f14 (b 14 (by omega))
   obtain⟨X,rfl,g16⟩:=wA f15 (b 15 (by omega))
   obtain⟨Y,rfl,g17⟩:=wA u (b 16 (by omega))
   obtain⟨W,ζ,⟨I,n18,x⟩,φ⟩:=jaa Tryz.underlying27 (n:=3) (by kernel_rfl) C (b 17 (by omega))
   rw[k3] at n18 x
   obtain⟨Z,rfl,g19⟩:=wA D (b 18 (by omega))
   obtain⟨N,rfl,g20⟩:=wA y (b 19 (by omega))
   obtain⟨K,rfl,g21⟩:=wA f20 (b 20 (by omega))
   obtain⟨a22,θ,⟨E,n22,m⟩,q22⟩:=jaa Tryz.underlying28 (n:=3) (by kernel_rfl) f21 (b 21 (by omega))
   rw[V] at n22 m
   rw[Q9 (f:=wWa) (g:=XW) Wka λr c=>(o1 r c).1] at n1
   rw[Q9 (f:=wXa) (g:=XX) Wla λr c=>(Q r c).1] at n4
   rw[Q9 (f:=Ki) (g:=jP) j7a λr c=>(o5 r c).1] at n5
   rw[Q9 (f:=Ki) (g:=jP) j7a λr c=>(T r c).1] at J
   rw[Q9 (f:=(λr=>km r 0)) (g:=qB) Wma λr c=>(x r c).1] at n18
   rw[Q9 (f:=Ki) (g:=jP) j7a λr c=>(m r c).1] at n22
   refine⟨⟨z0,r1.map wWa,(z2,z3),r4.map wXa,r5.map Ki,r6.map Ki,z7,z8,z9,F,κ,α,M,S,G,X,Y,ζ.map (λr=>km r 0),Z,N,K,θ.map Ki⟩,⟨a1,a4,a5,a6,W,a22⟩,⟨cs,rfl,?_⟩,⟨n1,n4,n5,J,n18,n22⟩,⟨g0,⟨g2,g3⟩,?_,?_,?_,?_,by rw[zb];omega,by rw[zb];omega,by rw[zb];omega,by rw[zb];omega,by rw[zb];omega,by rw[zb];omega⟩⟩
   ·rw[δ]
    exact⟨_,_,rfl,rfl,⟨_,_,rfl,m1,⟨_,_,rfl,rfl,⟨_,_,rfl,rfl,⟨_,_,rfl,m4,⟨_,_,rfl,m5,⟨_,_,rfl,m6,⟨_,_,rfl,rfl,⟨_,_,rfl,rfl,⟨_,_,rfl,rfl,⟨_,_,rfl,rfl,⟨_,_,rfl,rfl,⟨_,_,rfl,rfl,⟨_,_,rfl,rfl,⟨_,_,rfl,rfl,⟨_,_,rfl,rfl,⟨_,_,rfl,rfl,⟨_,_,rfl,rfl,⟨_,_,rfl,I,⟨_,_,rfl,rfl,⟨_,_,rfl,rfl,⟨_,_,rfl,rfl,⟨_,_,rfl,E,rfl⟩⟩⟩⟩⟩⟩⟩⟩⟩⟩⟩⟩⟩⟩⟩⟩⟩⟩⟩⟩⟩⟩⟩
   ·intro e k
    obtain⟨r,c,rfl⟩:=zw.1 k
    have:=K9 (Q r c).2
    exact⟨⟨this 0,this 1⟩,this 2,this 3⟩
   ·intro e k
    obtain⟨r,c,rfl⟩:=zw.1 k
    have:=K9 (o5 r c).2
    exact⟨this 0,this 1⟩
   ·intro e k
    obtain⟨r,c,rfl⟩:=zw.1 k
    have:=K9 (T r c).2
    exact⟨this 0,this 1⟩
   ·intro e k
    obtain⟨r,c,rfl⟩:=zw.1 k
    have:=K9 (m r c).2
    exact⟨this 0,this 1⟩
end
theorem run_law{f:FuncId}{args:List AV}{vs:List Value}{w:World}(c:ACalls Tryz.prog f args [] λr h'=>r=bl true/\h'=[])(k:ARs (c0 w) args vs):Calls Tryz.prog f vs.toArray w λe w'=>e= .returned (.bool true)/\Below w.heap.size w w':=by
 have g:fill (λ_=> .res) ([]:List Ob)=[]:=qoa
 have d:HOk w.heap.size w gN []:=⟨λi o hi=>(by cases hi),λi j o p b _ hi=>(by cases hi)⟩
 refine(c.2.2 (λ_=> .res) (λ_ _=>rfl) w.heap.size w gN vs (by rw[g];exact d) (zn _) (by rw[g];exact k)).mono ?_
 rintro e w' ⟨v,r,h',g',rfl,⟨rfl,rfl⟩,_,h,a⟩
 have a:v= .bool true:=a
 subst a
 exact⟨rfl,h.below⟩
