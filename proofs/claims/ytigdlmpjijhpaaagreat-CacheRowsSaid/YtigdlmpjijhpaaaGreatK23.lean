import Derived.Test.YtigdlmpjijhpaaaGreatKA
import Derived.Test.YtigdlmpjijhpaaaGreatK22
import Derived.Test.YtigdlmpjijhpaaaGreatK21
import Derived.Test.YtigdlmpjijhpaaaGreatK14
import Derived.Deep.SlicePairs
import Derived.WideShapes
import Derived.ChangeShapes
import Derived.Test.YtigdlmpjijhpaaaGreatK20
set_option linter.all false
namespace Go.Proofs.YtigdlmpjijhpaaaGreat.Ax
open Go Go.Proofs
set_option maxRecDepth 100000
attribute [go_sem] Yea Yia
theorem New.of{h h':List Ob}{e:Nat}{x:AV}{rows:List (List AV)}{L L2:List Ob}(b:h'=h++L)(k:New h' e x rows L2):New h e x rows (L++L2):=λa c=>by
 have:=k (a++L) (by rw[b];simp[c])
 rwa[zr] at this
theorem NoRes.app{L M:List Ob}(a:NoRes L)(b:NoRes M):NoRes (L++M):=λo c=>by
 rcases zI.1 c with h|h
 ·exact a o h
 ·exact b o h
theorem c67(g:Seg):xy Tryz.prog 72 [.ag (ve g)] (bl true):=λh=>by
 refine zj Tryz.f72 [.tmp 2] 3 rfl rfl rfl rfl rfl rfl (by decide) (⟨_,_,⟨rfl,rfl⟩,.refl⟩) λB=>?_
 simp only[go_sem]
 refine zn ?_<;>(simp only[go_sem]<;>try rfl)
theorem c68(h:List Ob)(i:Nat)(g:Seg)(k:Int)(hi:h[i]? =some (.box 3 [i64 k])):ACalls Tryz.prog 285 [.ag (ve g),.ptr i 0] h λr h'=>r=bl (g.kind==k)/\h'=h:=by
 have a:∀M,(h++M)[i]? =some (.box 3 [i64 k]):=λM=>ze hi
 refine zj Tryz.f285 [.tmp 3] 8 rfl rfl rfl rfl rfl rfl (by decide) (⟨_,_,⟨rfl,rfl⟩,.refl⟩) λB=>?_
 simp only[go_sem,a]
 refine zn ?_<;>(simp only[go_sem]<;>try rfl)
def ws(p:Seg->Bool)(l:List Seg):List Spn:=(l.filter p).map spS
theorem kha(p:Seg->Bool)(l:List Seg)(g:Seg):ws p (l++[g])=if p g then ws p l++[spS g] else ws p l:=by
 unfold ws
 rw[qo,zw]
 cases h:p g<;>simp[h]
theorem zaa(p:Seg->Bool)(l:List Seg):(ws p l).length<=l.length:=by
 unfold ws
 rw[zb]
 exact qh p l
set_option maxHeartbeats 1000000 in
theorem c66(h:List Ob)(x:AV)(f:FuncId)(cs:List AV)(l:List Seg)(p:Seg->Bool)(J:SlOf h x 5 (l.map ve))(U:l.length<1048576)(P:∀g∈l,∀L,ACalls Tryz.prog f ([.ag (ve g)]++cs) (h++L) λr h'=>r=bl (p g)/\h'=h++L):
  ACalls Tryz.prog 71 [x,.fn (.func f) [] cs] h λr h'=>∃L,h'=h++L/\NoRes L/\New h 2 r ((qx (ws p l)).map qJ) L:=by
 have hex:∃r h',(∃L,h'=h++L/\NoRes L/\New h 2 r ((qx (ws p l)).map qJ) L)/\ResK h h':=
  ⟨.sl 2 _,_,⟨[],rfl,jm,λ_ _=>⟨rfl,λ_=>rfl⟩⟩,resK_app⟩
 refine zj Tryz.f71 [.tmp 4] 29 rfl rfl rfl rfl rfl rfl (by decide) (hex) λB=>?_
 simp only[go_sem,J.rows,zb]
 refine zO (by decide) (λm T h'=>∃k:Nat,k<=l.length/\Pre h h'/\OwnS h h' 143 2 (T 5) ((ws p (l.take k)).map qJ)/\T 1= .fn (.func f) [] cs/\T 8=x/\T 9=i64 l.length/\T 10=i64 k/\m=l.length - k) l.length
  ⟨0,by omega,Pre.refl,.inl ⟨by simp only[go_sem],rfl⟩,by simp only[go_sem],by simp only[go_sem],by simp only[go_sem],by(simp only[go_sem]<;>rfl),rfl⟩ ?_
 rintro m T h' ⟨k,V,b,z,t1,t8,t9,t10,rfl⟩
 simp only[go_sem,t9,t10]
 refine ways (λe=>?_) (λe=>?_)
 ·have d:=dlt e
  obtain⟨q,rfl,t⟩:=b
  have u:SlOf (h++q) x 5 (l.map ve):=J.app _
  have F:=u.at (i:=k) (by simpa using d)
  have n:(l.map ve)[k]? =some (ve l[k]):=by rw[zz,zi d];rfl
  have C:(k:Int)<l.length:=by omega
  have a:=kha p (l.take k) l[k]
  rw[zE d] at a
  have j:l[k]∈l:=zx d
  obtain⟨y,S⟩:∃y,y=l[k]:=⟨_,rfl⟩
  rw[<-S] at n a j
  have fin:k+1<=l.length:=by omega
  have W:List.length (ve y)=5:=rfl
  have c:=P y j (q++[.box 146 (ve y)])
  rw[<-zr] at c
  have b:Pre h (h++q):=⟨q,rfl,t⟩
  generalize h++q=h' at*
  simp only[go_sem,t8,t10,t1,F,u.rows,n,C,zb,Int.toNat_natCast,zf]
  refine zh c ?_
  rintro _ X ⟨rfl,N⟩
  subst N
  simp only[go_sem]
  refine ways (λw=>?_) (λw=>?_)
  ·rw[w] at a
   simp only[if_true] at a
   rcases z with⟨t5,s⟩|⟨id,st,A,t5,D⟩
   ·simp only[go_sem,t5,t10]
    refine⟨l.length - (k+1),by omega,k+1,fin,b.app (zl rfl (zl rfl (zD rfl))),.inr ⟨_,_,by have:=b.len;omega,rfl,?_⟩,t1,t8,t9,qn (by omega) rfl,rfl⟩
    rw[a,zw,s,zG rfl]
    rfl
   ·have H:(((ws p (l.take k)).map qJ).length+1)*17<=140737488355328:=by
     have:=zaa p (l.take k)
     rw[zH] at this
     rw[zb];omega
    have K:∀M,(h'++M)[id]? =some (.row 143 2 ((ws p (l.take k)).map qJ) st):=λM=>ze D
    simp only[go_sem,t5,t10,K,H]
    refine⟨l.length - (k+1),by omega,k+1,fin,(b.app (zl rfl (zD rfl))).set A rfl,.inr ⟨id,st+1,A,rfl,?_⟩,t1,t8,t9,qn (by omega) rfl,rfl⟩
    rw[a,zw]
    exact zm (K _)
  ·have w:p y=false:=by simpa using w
   rw[w] at a
   simp only[Bool.false_eq_true,if_false] at a
   simp only[go_sem,t10]
   exact⟨l.length - (k+1),by omega,k+1,fin,b.app (zD rfl),by rw[a];exact z.app _,t1,t8,t9,qn (by omega) rfl,rfl⟩
 ·have Q:=xr e
  have G:k=l.length:=by omega
  subst G
  rw[zV] at z
  have R:=zaa p l
  rcases z with⟨t5,s⟩|⟨id,st,A,t5,D⟩
  ·have s:ws p l=[]:=by simpa using s
   simp only[go_sem,t5]
   refine zh (xUb _) ?_
   rintro _ E ⟨rfl,O⟩
   subst O
   simp only[go_sem]
   refine zh (c65 _ (.v (.slice none 0 0)) [] ⟨rfl,λh=>absurd rfl h⟩ (by simp)) ?_
   rintro r E ⟨L2,rfl,n1,n2⟩
   simp only[go_sem]
   obtain⟨L,rfl,t⟩:=b
   exact⟨r,by simp only[go_sem],.inl ⟨L++L2,by simp,t.app n1,by rw[s];exact n2.of rfl⟩⟩
  ·simp only[go_sem,t5]
   refine zh (c96 _ id st _ D) ?_
   rintro _ E ⟨rfl,rfl⟩
   simp only[go_sem]
   refine zh (c65 _ (.sl 2 ((ws p l).map qJ)) (ws p l) ⟨rfl,λ_=>rfl⟩ (by omega)) ?_
   rintro r E ⟨L2,rfl,n1,n2⟩
   simp only[go_sem]
   have b:=b.set (o:= .gone) A rfl
   obtain⟨L,I,t⟩:=b
   exact⟨r,by simp only[go_sem],.inl ⟨L++L2,by rw[I];simp,t.app n1,n2.of I⟩⟩
def qV(l:List Seg):List Spn:=qx (l.map spS)
def vi(l:List Seg)(k:Int):List Spn:=qx ((l.filter λg=>g.kind==k).map spS)
theorem c31(h:List Ob)(x:AV)(l:List Seg)(b:SlOf h x 5 (l.map ve))(c:l.length<1048576):
  ACalls Tryz.prog 23 [x] h λr h'=>∃L,h'=h++L/\NoRes L/\New h 2 r ((qV l).map qJ) L:=by
 have hex:∃r h',(∃L,h'=h++L/\NoRes L/\New h 2 r ((qV l).map qJ) L)/\ResK h h':=
  ⟨.sl 2 _,_,⟨[],rfl,jm,λ_ _=>⟨rfl,λ_=>rfl⟩⟩,resK_app⟩
 have a:ws (λ_=>true) l=l.map spS:=by unfold ws;rw[Jb λ_ _=>rfl]
 refine zj Tryz.f23 [.tmp 2] 5 rfl rfl rfl rfl rfl rfl (by decide) (hex) λB=>?_
 simp only[go_sem]
 refine zh (c66 h x 72 [] l (λ_=>true) b c λg _ L=>c67 g _) ?_
 rintro r d ⟨L2,rfl,n1,n2⟩
 simp only[go_sem]
 exact⟨r,by simp only[go_sem],.inl ⟨L2,rfl,n1,by rw[a] at n2;exact n2⟩⟩
theorem c32(h:List Ob)(x:AV)(l:List Seg)(k:Int)(a:SlOf h x 5 (l.map ve))(b:l.length<1048576):
  ACalls Tryz.prog 243 [x,i64 k] h λr h'=>∃L,h'=h++L/\NoRes L/\New h 2 r ((vi l k).map qJ) L:=by
 have hex:∃r h',(∃L,h'=h++L/\NoRes L/\New h 2 r ((vi l k).map qJ) L)/\ResK h h':=
  ⟨.sl 2 _,_,⟨[],rfl,jm,λ_ _=>⟨rfl,λ_=>rfl⟩⟩,resK_app⟩
 refine zj Tryz.f243 [.tmp 4] 8 rfl rfl rfl rfl rfl rfl (by decide) (hex) λB=>?_
 simp only[go_sem]
 refine zh (c66 _ x 285 [.ptr h.length 0] l (λg=>g.kind==k) (a.app _) b λg _ L=>c68 _ _ g k (by rw[zr,zK rfl];rfl)) ?_
 rintro r c ⟨L2,rfl,n1,n2⟩
 simp only[go_sem]
 exact⟨r,by simp only[go_sem],.inl ⟨_,rfl,zl rfl n1,n2.of rfl⟩⟩
theorem wha(l:List Spn)(x:Spn):jQ (l++[x])=jQ l+(x.to_ - x.from_):=by simp[jQ]
theorem zba{l:List Spn}(a:∀s∈l,0<=s.from_/\s.from_<s.to_/\s.to_<=32054400):0<=jQ l/\jQ l<=32054400*l.length:=by
 induction l with
 | nil=>simp[jQ]
 | cons x l b=>
   have:=b λs h=>a s (.tail _ h)
   have:=a x (.head _)
   simp only[jQ,List.map_cons,List.sum_cons,List.length_cons] at*
   omega
theorem c30(h:List Ob)(x:AV)(l:List Spn)(C:SlOf h x 2 (l.map qJ))(G:l.length<1048576):
  ACalls Tryz.prog 22 [x] h λr h'=>r=i64 (jQ (qx l))/\h'=h:=by
 have f:= @kX l
 have g:=qm l
 obtain⟨n,w⟩:∃n,n=qx l:=⟨_,rfl⟩
 rw[<-w] at f g
 refine zj Tryz.f22 [.tmp 2] 21 rfl rfl rfl rfl rfl rfl (by decide) (⟨_,_,⟨rfl,rfl⟩,.refl⟩) λB=>?_
 simp only[go_sem]
 refine zh (c65 _ x l C (by omega)) ?_
 rintro r F ⟨L2,rfl,n1,n2⟩
 rw[<-w] at n2⊢
 have v:SlOf (h++L2) r 2 (n.map qJ):=n2 h rfl
 simp only[go_sem,v.rows,zb]
 refine zO (by decide) (λm T h'=>∃k:Nat,k<=n.length/\Pre (h++L2) h'/\T 2=i64 (jQ (n.take k))/\T 6=r/\T 7=i64 n.length/\T 8=i64 k/\m=n.length - k) n.length
  ⟨0,by omega,Pre.refl,by(simp only[go_sem]<;>rfl),by simp only[go_sem],by simp only[go_sem],by(simp only[go_sem]<;>rfl),rfl⟩ ?_
 rintro m T h' ⟨k,H,a,t2,t6,z,t8,rfl⟩
 simp only[go_sem,z,t8]
 refine ways (λe=>?_) (λe=>?_)
 ·have b:=dlt e
  have j:=a.sl v
  have t:=j.at (i:=k) (by simpa using b)
  have c:(n.map qJ)[k]? =some (qJ n[k]):=by rw[zz,zi b];rfl
  have p:(k:Int)<n.length:=by omega
  have d:=wha (n.take k) n[k]
  rw[zE b] at d
  have o:=zba (l:=n.take k) λs h=>f s (List.mem_of_mem_take h)
  have q:=f _ (zx b)
  rw[zH] at o
  obtain⟨y,E⟩:∃y,y=n[k]:=⟨_,rfl⟩
  rw[<-E] at c d q
  have I:List.length (qJ y)=2:=rfl
  simp only[go_sem,t2,t6,t8,t,j.rows,c,p,zb,Int.toNat_natCast,zf]
  refine⟨n.length - (k+1),by omega,k+1,by omega,a.app (zD rfl),?_,z,qn (by omega) rfl,rfl⟩
  rw[d]
  show i64 (wr (jQ (n.take k)+wr (y.to_ - y.from_)))=_
  rw[qq (n:=y.to_ - y.from_) (by unfold Fit;omega),qq (by unfold Fit;omega)]
 ·have D:=xr e
  have u:k=n.length:=by omega
  subst u
  rw[zV] at t2
  obtain⟨J,rfl,A⟩:=a
  rw[zr]
  simp only[go_sem,t2]
  refine zn ?_<;>(simp only[go_sem]<;>try rfl)
attribute [go_sem] K8a K9a Joa Zwa Jpa YMa
def s0:Setup:=⟨1,[],(1,1),[((1,1),(1,1))],[(1,1)],[(1,1)],0,900,3600,0,0,0,0,0,0,0,0,[1],0,0,0,[]⟩
def f0:List Flg:=[⟨4,3⟩,⟨5,1⟩]
def a0(n:Nat):SA:=⟨.v (.slice none 0 0),.tl (n+1) 0,.tl (n+2) 0,.tl (n+3) 0,.tl (n+4) 0,.v (.slice none 0 0)⟩
theorem ZO{h:List Ob}{id ty e st:Nat}{xs:List (List AV)}(k:h[id]? =some (.row ty e xs st)):SlOf h (.tl id st) e xs:=⟨by rw[q8,k,kV,if_pos rfl],λ_=>by rw[jO,k,wg]⟩
theorem ZP{h:List Ob}{e:Nat}:SlOf h (.v (.slice none 0 0)) e []:=⟨rfl,λh=>absurd rfl h⟩
end Go.Proofs.YtigdlmpjijhpaaaGreat.Ax
namespace Go.Proofs.YtigdlmpjijhpaaaGreat.Ax
open Go Go.RowKit Go.ChangeShapes Go.WideShapes
section
variable {H:Type} {enc:TypeId × Value->H} {P:Program} {w:World} {base:Nat} {held:Bool}
def jea(P:Program):Nat->TypeId->Bool
 | 0,_=>false
 | n+1,t=>match P.underlying t with
   | some (.int .i64)=>true
   | some (.struct a)=>(List.range (P.cellsOf t)).all λk=>a.toList.any λf=>jea P n f.type && (decide (f.offset<=k) && decide (k<f.offset+P.cellsOf f.type))
   | _=>false
theorem Wi{spare:Nat->Bool}:∀(n:Nat) {t:TypeId} {a:Nat} {cs:List Value} {x:DataW H × List MemPlace},jea P n t=true->DataW.trod enc P w base spare held a t cs=some x->∀v∈cs,∃z,v= .int .i64 z/\(Lit.int .i64 z).wf=true
 | 0,_,_,_,_,h,_=>by cases h
 | n+1,t,a,cs,x,h,p=>by
   unfold jea at h
   split at h
   ·rename_i i
    obtain⟨z,rfl,_,r⟩:=DataW.trod_int i p
    intro v d
    simp at d
    exact⟨z,d,r⟩
   ·rename_i b i
    obtain⟨xs,n',_,_,C,o,u⟩:=DataW.trod_struct i p
    intro v d
    obtain⟨k,A,rfl⟩:=List.mem_iff_getElem.1 d
    have m:=qa.1 h k (qW.2 (by omega))
    obtain⟨f,g,c⟩:=List.any_eq_true.1 m
    simp only[zq,decide_eq_true_eq] at c
    obtain⟨l,y,B⟩:=c
    obtain⟨j,s,rfl⟩:=List.mem_iff_getElem.1 g
    have e:j<b.size:=by simpa using s
    have:=u j _ (by rw[qH e])
    rw[zi (by omega)] at this
    refine Wi n l this _ ?_
    rw[List.mem_iff_getElem?]
    refine⟨k - b.toList[j].offset,?_⟩
    have q:b[j]=b.toList[j]:=by simp
    rw[q,qZ,if_pos (by omega),List.getElem?_drop,show b.toList[j].offset+(k - b.toList[j].offset)=k by omega,zi A]
   ·cases h
abbrev gN:Gh:=⟨λ_=>0,λ_=>undef⟩
abbrev c0(w:World):Ctx:=ctx w gN []
theorem rd0{a:Addr}{u:Value}(h:w.cell? a=some u):(c0 w).rd a u:=⟨λ⟨i,o,hi,_⟩=>(by cases hi),h⟩
theorem jfa{c:Ctx}{A:Addr}:∀(a:List Int) (k:Nat),(∀j z,a[j]? =some z->c.rd (A.add (k+j)) (.int .i64 z))->ACells c (some A) k (a.map i64)
 | [],_,_=>trivial
 | z::a,k,h=>by
   refine⟨⟨A,_,rfl,by simpa using h 0 z rfl,rfl⟩,jfa a (k+1) λj b d=>?_⟩
   have:=h (j+1) b (by simpa using d)
   rwa[show k+(j+1)=k+1+j by omega] at this
theorem vha{c:Ctx}{A:Addr}{e:Nat}:∀(rows:List (List Int)) (i:Nat),(∀r∈rows,r.length=e)->(∀j r,rows[j]? =some r->∀k z,r[k]? =some z->c.rd (A.add ((i+j)*e+k)) (.int .i64 z))->ARows c (some A) e i (rows.map (·.map i64))
 | [],_,_,_=>trivial
 | r::rows,i,f,d=>by
   refine⟨⟨by simpa using f r (.head _),jfa r (i*e) λk z a=>by simpa using d 0 r rfl k z a⟩,vha rows (i+1) (λq b=>f q (.tail _ b)) λj q b k z a=>?_⟩
   have:=d (j+1) q (by simpa using b) k z a
   rwa[show i+(j+1)=i+1+j by omega] at this
def Wj(w:World)(e:Nat)(v:Value)(a:AV)(rows:List (List Int)):Prop:=
 AR (c0 w) a v/\SlOf [] a e (rows.map (·.map i64))/\∀r∈rows,r.length=e/\∀z∈r,(Lit.int .i64 z).wf=true
theorem jga{t e:TypeId}{n y:Nat}{v:Value}{x:DataW H × List MemPlace}(I:P.underlying t=some (.slice e))(C:jea P n e=true)(h:DataW.trod enc P w base (λ_=>true) held y t [v]=some x):
  ∃a rows,Wj w (P.cellsOf e) v a rows/\rows.length<=maxLen:=by
 rcases Go.Deep.open_slice I h with⟨b,_⟩|⟨a,len,cap,m,n',D,Q,b,O,L,N,F,rfl,J⟩
 ·injection b with b _
  subst b
  exact⟨.v (.slice none 0 0),[],⟨rfl,⟨rfl,λh=>absurd rfl h⟩,λ_ h=>by cases h⟩,Nat.zero_le _⟩
 ·injection b with b _
  subst b
  have each:∀i,i<len->∃r:List Int,r.length=P.cellsOf e/\(∀z∈r,(Lit.int .i64 z).wf=true)/\∀k z,r[k]? =some z->w.cell? (a.add (i*P.cellsOf e+k))=some (.int .i64 z):=by
   intro i hi
   obtain⟨cs',K,M⟩:=J i (by rw[F];simp;omega)
   obtain⟨_,d,o⟩:=World.cells?_some K
   have s:=Wi n C M
   have key:∀k,∃z:Int,k<cs'.length->cs'[k]? =some (.int .i64 z)/\(Lit.int .i64 z).wf=true:=λk=>by
    by_cases c:k<cs'.length
    ·obtain⟨z,A,E⟩:=s cs'[k] (zx c)
     exact⟨z,λ_=>⟨by rw[zi c,A],E⟩⟩
    ·exact⟨0,λh=>absurd h c⟩
   obtain⟨f,p⟩:=Classical.axiomOfChoice key
   refine⟨(List.range (P.cellsOf e)).map f,by simp,λz B=>?_,λk z c=>?_⟩
   ·obtain⟨k,c,rfl⟩:=zt.1 B
    exact(p k (by have:=qW.1 c;omega)).2
   ·have q:k<P.cellsOf e:=by have:=(zd.1 c).1;simpa using this
    have B:f k=z:=by simpa [q] using c
    rw[<-Addr.add_add,o k q,(p k (by omega)).1,B]
  have:∃f:Nat->List Int,∀i,i<len->(f i).length=P.cellsOf e/\(∀z∈f i,(Lit.int .i64 z).wf=true)/\∀k z,(f i)[k]? =some z->w.cell? (a.add (i*P.cellsOf e+k))=some (.int .i64 z):=Go.Deep.choose_lt each
  obtain⟨f,p⟩:=this
  have d:((List.range len).map f).length=len:=by simp
  have g:∀r∈(List.range len).map f,∃i,i<len/\f i=r:=λr l=>by
   obtain⟨i,hi,e⟩:=zt.1 l
   exact⟨i,qW.1 hi,e⟩
  refine⟨.sl (P.cellsOf e) (((List.range len).map f).map (·.map i64)),(List.range len).map f,⟨⟨some a,cap,by simp,by simpa using L,?_⟩,⟨rfl,λ_=>rfl⟩,λr l=>?_⟩,by rw[d];omega⟩
  ·refine vha _ 0 (λr l=>?_) λj r G k z c=>?_
   ·obtain⟨i,hi,rfl⟩:=g r l
    exact(p i hi).1
   ·have u:j<len:=by have:=(zd.1 G).1;simpa using this
    have l:f j=r:=by simpa [u] using G
    rw[Nat.zero_add]
    exact rd0 ((p j u).2.2 k z (by rw[l];exact c))
  ·obtain⟨i,hi,rfl⟩:=g r l
   exact⟨(p i hi).1,(p i hi).2.1⟩
theorem KAa{t e:TypeId}{n b:Nat}{v:Value}{x:DataW H × List MemPlace}(d:P.underlying t=some (.slice e))(c:jea P n e=true)(h:DataW.trod enc P w base (λ_=>true) held b t [v]=some x):
  ∃a rows,Wj w (P.cellsOf e) v a rows:=by
 obtain⟨a,rows,k,_⟩:=jga d c h
 exact⟨a,rows,k⟩
end
theorem xfa{z:Int}(h:(Lit.int .i64 z).wf=true):Fit z:=by
 simp[Lit.wf,IntKind.min,IntKind.max,IntKind.bits,IntKind.signed] at h
 unfold Fit
 omega
def wR(r:List Int)(k:Nat):Int:=r.getD k 0
def KA(r:List Int):qw:=(wR r 0,wR r 1)
theorem xga:∀ {r:List Int},r.length=2->r.map i64=jS (KA r)
 | [_,_],_=>rfl
def w2a(r:List Int):Way:=(wR r 0,wR r 1,wR r 2)
theorem WIa:∀ {r:List Int},r.length=3->r.map i64=Kg (w2a r)
 | [_,_,_],_=>rfl
def w3a(r:List Int):Elt:=((wR r 0,wR r 1),(wR r 2,wR r 3))
theorem WJa:∀ {r:List Int},r.length=4->r.map i64=XM (w3a r)
 | [_,_,_,_],_=>rfl
theorem WKa:∀ {r:List Int},r.length=1->r.map i64=qz (wR r 0)
 | [_],_=>rfl
theorem Vr{r:List Int}(h:∀z∈r,(Lit.int .i64 z).wf=true)(k:Nat):Fit (wR r k):=by
 unfold wR
 rw[zZ]
 by_cases a:k<r.length
 ·rw[zi a];exact xfa (h _ (zx a))
 ·rw[qB (by omega)];simp[Fit]
theorem Js{α:Type}{f:List Int->α}{g:α->List AV}{e:Nat}(a:∀ {r:List Int},r.length=e->r.map i64=g (f r)){rows:List (List Int)}(h:∀r∈rows,r.length=e):rows.map (·.map i64)=(rows.map f).map g:=by
 rw[xH]
 exact List.map_congr_left λr b=>a (h r b)
structure SFit0 (s:Setup):Prop where
 places:Fit s.places
 pace:jq s.pace
 elements:∀e∈s.elements,jq e.1/\jq e.2
 classes:∀p∈s.classes,jq p
 gears:∀p∈s.gears,jq p
 tiers:∀t∈s.tiers,jq t
 nw:s.ways.length<9223372036854775808
 ne:s.elements.length<9223372036854775808
 nc:s.classes.length<9223372036854775808
 ng:s.gears.length<9223372036854775808
 nr:s.rates.length<9223372036854775808
 nt:s.tiers.length<9223372036854775808
theorem SFit0.fit{s:Setup}(f:SFit0 s):SFit s:=⟨f.places,f.pace,f.elements,f.classes,f.gears,f.tiers,f.nw,f.ne,f.nc,f.ng,f.nr,f.nt⟩
theorem SFit0.few{s:Setup}(f:SFit0 s)(h:jYa s=true):SFit s:=by
 simp only[jYa,decide_eq_true_eq] at h
 obtain⟨e,a,c,b,d,g⟩:=h
 exact⟨f.places,f.pace,f.elements,f.classes,f.gears,f.tiers,by omega,by omega,by omega,by omega,by omega,by omega⟩
def InSet(w:World)(v:Value):Prop:=∃(s:Setup) (a:SA),AR (c0 w) (jg s a) v/\SIn [] s a/\SFit0 s
section
variable {H:Type} {enc:TypeId × Value->H} {w:World} {base:Nat} {held:Bool}
theorem jha{t e:TypeId}{n b:Nat}{v:Value}{y:Option (DataW H × List MemPlace)}(d:Tryz.prog.underlying t=some (.slice e))(c:jea Tryz.prog n e=true)(h:DataW.trod enc Tryz.prog w base (λ_=>true) held b t [v]=y)(f:y.isSome=true):∃a rows,Wj w (Tryz.prog.cellsOf e) v a rows/\rows.length<=9223372036854775807:=by
 cases y with
 | none=>cases f
 | some y=>exact jga d c h
theorem wJ{a:Nat}{v:Value}{y:Option (DataW H × List MemPlace)}(h:DataW.trod enc Tryz.prog w base (λ_=>true) held a 3 [v]=y)(d:y.isSome=true):∃z,v= .int .i64 z/\Fit z:=by
 cases y with
 | none=>cases d
 | some y=>
   obtain⟨z,b,_,c⟩:=DataW.trod_int Tryz.underlying3 h
   injection b with b _
   exact⟨z,b,xfa c⟩
theorem zUb{a:Nat}{v0 v1:Value}{y:Option (DataW H × List MemPlace)}(h:DataW.trod enc Tryz.prog w base (λ_=>true) held a 24 [v0,v1]=y)(c:y.isSome=true):∃z0 b,v0= .int .i64 z0/\v1= .int .i64 b/\Fit z0/\Fit b:=by
 cases y with
 | none=>cases c
 | some y=>
   have:=Wi (n:=2) (by kernel_rfl) h
   obtain⟨z0,h0,d⟩:=this v0 (by simp)
   obtain⟨b,e,f⟩:=this v1 (by simp)
   exact⟨z0,b,h0,e,xfa d,xfa f⟩
set_option maxHeartbeats 1000000 in
set_option maxRecDepth 100000 in
theorem setup_in{r:Reach}{b0:Nat}{v:Value}{d:DataW H}{p:List MemPlace}(hv:Value.okWide Tryz.prog w r b0 30 v)(h:DataW.Trod enc Tryz.prog w base (λ_=>true) held 30 v d p):InSet w v:=by
 simp only[Value.okWide,Tryz.underlying30] at hv
 obtain⟨cs,rfl,_,_⟩:=hv
 obtain⟨u,l⟩:=h
 have l:DataW.trod enc Tryz.prog w base (λ_=>true) held u 30 cs.toList=some (d,p):=by simpa [Value.cells] using l
 obtain⟨xs,n,_,_,hl,A,a⟩:=DataW.trod_struct Tryz.underlying30 l
 have S:Tryz.prog.cellsOf 30=23:=by kernel_rfl
 have k3:Tryz.prog.cellsOf 3=1:=by kernel_rfl
 have V:Tryz.prog.cellsOf 22=1:=by kernel_rfl
 have i:Tryz.prog.cellsOf 24=2:=by kernel_rfl
 have F:Tryz.prog.cellsOf 25=1:=by kernel_rfl
 have Q:Tryz.prog.cellsOf 26=1:=by kernel_rfl
 have U:Tryz.prog.cellsOf 27=1:=by kernel_rfl
 have W:Tryz.prog.cellsOf 28=1:=by kernel_rfl
 have y:Tryz.prog.cellsOf 225=3:=by kernel_rfl
 have I:Tryz.prog.cellsOf 183=4:=by kernel_rfl
 have K:Tryz.prog.cellsOf 185=2:=by kernel_rfl
 rw[S] at hl
 have b:∀j,j<22->(xs[j]?).isSome=true:=λj hj=>by
  have:j<xs.length:=by rw[A];exact hj
  simp[this]
 generalize κ:cs.toList=L at hl a
 match L,hl with
 | [v0,v1,v2,v3,v4,v5,v6,v7,v8,v9,v10,v11,φ,v13,v14,v15,v16,v17,ψ,v19,v20,v21,v22],_=>
   have f0:=a 0 ⟨"Places",3,0,false, "", "",0⟩ rfl
   have f1:=a 1 ⟨"Ways",22,1,false, "", "",8⟩ rfl
   have f2:=a 2 ⟨"Pace",24,2,false, "", "",32⟩ rfl
   have f3:=a 3 ⟨"Elements",25,4,false, "", "",48⟩ rfl
   have f4:=a 4 ⟨"Classes",26,5,false, "", "",72⟩ rfl
   have f5:=a 5 ⟨"Gears",26,6,false, "", "",96⟩ rfl
   have f6:=a 6 ⟨"Allow",3,7,false, "", "",120⟩ rfl
   have f7:=a 7 ⟨"Unit",3,8,false, "", "",128⟩ rfl
   have f8:=a 8 ⟨"Cap",3,9,false, "", "",136⟩ rfl
   have f9:=a 9 ⟨"PaidBreak",3,10,false, "", "",144⟩ rfl
   have D:=a 10 ⟨"AutoAfter",3,11,false, "", "",152⟩ rfl
   have t:=a 11 ⟨"AutoBreak",3,12,false, "", "",160⟩ rfl
   have s:=a 12 ⟨"DayReg",3,13,false, "", "",168⟩ rfl
   have x:=a 13 ⟨"DayOver",3,14,false, "", "",176⟩ rfl
   have f14:=a 14 ⟨"WeekReg",3,15,false, "", "",184⟩ rfl
   have f15:=a 15 ⟨"NightFrom",3,16,false, "", "",192⟩ rfl
   have B:=a 16 ⟨"NightTo",3,17,false, "", "",200⟩ rfl
   have o:=a 17 ⟨"Rates",27,18,false, "", "",208⟩ rfl
   have C:=a 18 ⟨"Diff",3,19,false, "", "",232⟩ rfl
   have z:=a 19 ⟨"Least",3,20,false, "", "",240⟩ rfl
   have f20:=a 20 ⟨"Fault",3,21,false, "", "",248⟩ rfl
   have f21:=a 21 ⟨"Tiers",28,22,false, "", "",256⟩ rfl
   simp only[List.drop_succ_cons,List.drop_zero,List.take_succ_cons,List.take_zero,List.take_nil,k3,V,i,F,Q,U,W] at f0 f1 f2 f3 f4 f5 f6 f7 f8 f9 D t s x f14 f15 B o C z f20 f21
   obtain⟨z0,rfl,g0⟩:=wJ f0 (b 0 (by omega))
   obtain⟨a1,r1,⟨m1,n1,o1⟩,q1⟩:=jha Tryz.underlying22 (n:=3) (by kernel_rfl) f1 (b 1 (by omega))
   rw[y] at n1 o1
   obtain⟨z2,z3,rfl,rfl,g2,g3⟩:=zUb f2 (b 2 (by omega))
   obtain⟨a4,r4,⟨m4,n4,Y⟩,q4⟩:=jha Tryz.underlying25 (n:=3) (by kernel_rfl) f3 (b 3 (by omega))
   rw[I] at n4 Y
   obtain⟨a5,r5,⟨m5,n5,G⟩,q5⟩:=jha Tryz.underlying26 (n:=3) (by kernel_rfl) f4 (b 4 (by omega))
   rw[i] at n5 G
   obtain⟨a6,r6,⟨m6,T,o6⟩,q6⟩:=jha Tryz.underlying26 (n:=3) (by kernel_rfl) f5 (b 5 (by omega))
   rw[i] at T o6
   obtain⟨z7,rfl,g7⟩:=wJ f6 (b 6 (by omega))
   obtain⟨z8,rfl,g8⟩:=wJ f7 (b 7 (by omega))
   obtain⟨z9,rfl,g9⟩:=wJ f8 (b 8 (by omega))
   obtain⟨P,rfl,g10⟩:=wJ f9 (b 9 (by omega))
   obtain⟨E,rfl,g11⟩:=wJ D (b 10 (by omega))
   obtain⟨R,rfl,g12⟩:=wJ t (b 11 (by omega))
   obtain⟨N,rfl,g13⟩:=wJ s (b 12 (by omega))
   obtain⟨α,rfl,g14⟩:=wJ x (b 13 (by omega))
   obtain⟨ζ,rfl,g15⟩:=wJ f14 (b 14 (by omega))
   obtain⟨ι,rfl,g16⟩:=wJ f15 (b 15 (by omega))
   obtain⟨γ,rfl,g17⟩:=wJ B (b 16 (by omega))
   obtain⟨θ,ε,⟨J,n18,q⟩,q18⟩:=jha Tryz.underlying27 (n:=3) (by kernel_rfl) o (b 17 (by omega))
   rw[k3] at n18 q
   obtain⟨O,rfl,g19⟩:=wJ C (b 18 (by omega))
   obtain⟨Z,rfl,χ⟩:=wJ z (b 19 (by omega))
   obtain⟨η,rfl,g21⟩:=wJ f20 (b 20 (by omega))
   obtain⟨a22,X,⟨M,n22,k⟩,q22⟩:=jha Tryz.underlying28 (n:=3) (by kernel_rfl) f21 (b 21 (by omega))
   rw[K] at n22 k
   rw[Js (f:=w2a) (g:=Kg) WIa λr c=>(o1 r c).1] at n1
   rw[Js (f:=w3a) (g:=XM) WJa λr c=>(Y r c).1] at n4
   rw[Js (f:=KA) (g:=jS) xga λr c=>(G r c).1] at n5
   rw[Js (f:=KA) (g:=jS) xga λr c=>(o6 r c).1] at T
   rw[Js (f:=(λr=>wR r 0)) (g:=qz) WKa λr c=>(q r c).1] at n18
   rw[Js (f:=KA) (g:=jS) xga λr c=>(k r c).1] at n22
   refine⟨⟨z0,r1.map w2a,(z2,z3),r4.map w3a,r5.map KA,r6.map KA,z7,z8,z9,P,E,R,N,α,ζ,ι,γ,ε.map (λr=>wR r 0),O,Z,η,X.map KA⟩,⟨a1,a4,a5,a6,θ,a22⟩,⟨cs,rfl,?_⟩,⟨n1,n4,n5,T,n18,n22⟩,⟨g0,⟨g2,g3⟩,?_,?_,?_,?_,by rw[zb];omega,by rw[zb];omega,by rw[zb];omega,by rw[zb];omega,by rw[zb];omega,by rw[zb];omega⟩⟩
   ·rw[κ]
    exact⟨_,_,rfl,rfl,⟨_,_,rfl,m1,⟨_,_,rfl,rfl,⟨_,_,rfl,rfl,⟨_,_,rfl,m4,⟨_,_,rfl,m5,⟨_,_,rfl,m6,⟨_,_,rfl,rfl,⟨_,_,rfl,rfl,⟨_,_,rfl,rfl,⟨_,_,rfl,rfl,⟨_,_,rfl,rfl,⟨_,_,rfl,rfl,⟨_,_,rfl,rfl,⟨_,_,rfl,rfl,⟨_,_,rfl,rfl,⟨_,_,rfl,rfl,⟨_,_,rfl,rfl,⟨_,_,rfl,J,⟨_,_,rfl,rfl,⟨_,_,rfl,rfl,⟨_,_,rfl,rfl,⟨_,_,rfl,M,rfl⟩⟩⟩⟩⟩⟩⟩⟩⟩⟩⟩⟩⟩⟩⟩⟩⟩⟩⟩⟩⟩⟩⟩
   ·intro e m
    obtain⟨r,c,rfl⟩:=zt.1 m
    have:=Vr (Y r c).2
    exact⟨⟨this 0,this 1⟩,this 2,this 3⟩
   ·intro e m
    obtain⟨r,c,rfl⟩:=zt.1 m
    have:=Vr (G r c).2
    exact⟨this 0,this 1⟩
   ·intro e m
    obtain⟨r,c,rfl⟩:=zt.1 m
    have:=Vr (o6 r c).2
    exact⟨this 0,this 1⟩
   ·intro e m
    obtain⟨r,c,rfl⟩:=zt.1 m
    have:=Vr (k r c).2
    exact⟨this 0,this 1⟩
end
theorem run_law{f:FuncId}{args:List AV}{vs:List Value}{w:World}(c:ACalls Tryz.prog f args [] λr h'=>r=bl true/\h'=[])(h:ARs (c0 w) args vs):Calls Tryz.prog f vs.toArray w λe w'=>e= .returned (.bool true)/\Below w.heap.size w w':=by
 have g:fill (λ_=> .res) ([]:List Ob)=[]:=qma
 have d:HOk w.heap.size w gN []:=⟨λi o hi=>(by cases hi),λi j o p b _ hi=>(by cases hi)⟩
 refine(c.2.2 (λ_=> .res) (λ_ _=>rfl) w.heap.size w gN vs (by rw[g];exact d) (zp _) (by rw[g];exact h)).mono ?_
 rintro e w' ⟨v,r,h',g',rfl,⟨rfl,rfl⟩,_,k,a⟩
 have a:v= .bool true:=a
 subst a
 exact⟨rfl,k.below⟩
