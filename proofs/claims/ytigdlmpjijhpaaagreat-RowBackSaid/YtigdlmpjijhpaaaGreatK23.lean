import Derived.Test.YtigdlmpjijhpaaaGreatKA
import Derived.Test.YtigdlmpjijhpaaaGreatK22
import Derived.Test.YtigdlmpjijhpaaaGreatK21
import Derived.Test.YtigdlmpjijhpaaaGreatK14
import Derived.Deep.SlicePairs
import Derived.WideShapes
import Derived.ChangeShapes
import Derived.Test.YtigdlmpjijhpaaaGreatK20
set_option linter.all false
namespace Go.Proofs.YtigdlmpjijhpaaaGreat.Ax
open Go Go.Proofs
set_option maxRecDepth 100000
attribute [go_sem] Xza XDa
theorem New.of{h h':List Ob}{e:Nat}{x:AV}{rows:List (List AV)}{L L2:List Ob}(b:h'=h++L)(k:New h' e x rows L2):New h e x rows (L++L2):=λa c=>by
 have:=k (a++L) (by rw[b];simp[c])
 rwa[zn] at this
theorem NoRes.app{L M:List Ob}(a:NoRes L)(b:NoRes M):NoRes (L++M):=λo c=>by
 rcases zK.1 c with h|h
 ·exact a o h
 ·exact b o h
theorem c67(g:Seg):xv Tryz.prog 72 [.ag (vb g)] (bl true):=λh=>by
 refine zl Tryz.f72 [.tmp 2] 3 rfl rfl rfl rfl rfl rfl (by decide) (⟨_,_,⟨rfl,rfl⟩,.refl⟩) λB=>?_
 simp only[go_sem]
 refine zk ?_<;>(simp only[go_sem]<;>try rfl)
theorem c68(h:List Ob)(i:Nat)(g:Seg)(k:Int)(hi:h[i]? =some (.box 3 [i64 k])):ACalls Tryz.prog 285 [.ag (vb g),.ptr i 0] h λr h'=>r=bl (g.kind==k)/\h'=h:=by
 have a:∀M,(h++M)[i]? =some (.box 3 [i64 k]):=λM=>zf hi
 refine zl Tryz.f285 [.tmp 3] 8 rfl rfl rfl rfl rfl rfl (by decide) (⟨_,_,⟨rfl,rfl⟩,.refl⟩) λB=>?_
 simp only[go_sem,a]
 refine zk ?_<;>(simp only[go_sem]<;>try rfl)
def vt(p:Seg->Bool)(l:List Seg):List Spn:=(l.filter p).map spS
theorem jba(p:Seg->Bool)(l:List Seg)(g:Seg):vt p (l++[g])=if p g then vt p l++[spS g] else vt p l:=by
 unfold vt
 rw[je,zy]
 cases h:p g<;>simp[h]
theorem Wj(p:Seg->Bool)(l:List Seg):(vt p l).length<=l.length:=by
 unfold vt
 rw[zb]
 exact qt p l
set_option maxHeartbeats 1000000 in
theorem c66(h:List Ob)(x:AV)(f:FuncId)(cs:List AV)(l:List Seg)(p:Seg->Bool)(I:SlOf h x 5 (l.map vb))(V:l.length<1048576)(Q:∀g∈l,∀L,ACalls Tryz.prog f ([.ag (vb g)]++cs) (h++L) λr h'=>r=bl (p g)/\h'=h++L):
  ACalls Tryz.prog 71 [x,.fn (.func f) [] cs] h λr h'=>∃L,h'=h++L/\NoRes L/\New h 2 r ((qg (vt p l)).map qq) L:=by
 have hex:∃r h',(∃L,h'=h++L/\NoRes L/\New h 2 r ((qg (vt p l)).map qq) L)/\ResK h h':=
  ⟨.sl 2 _,_,⟨[],rfl,xr,λ_ _=>⟨rfl,λ_=>rfl⟩⟩,q8⟩
 refine zl Tryz.f71 [.tmp 4] 29 rfl rfl rfl rfl rfl rfl (by decide) (hex) λB=>?_
 simp only[go_sem,I.rows,zb]
 refine zO (by decide) (λm T h'=>∃k:Nat,k<=l.length/\Pre h h'/\OwnS h h' 143 2 (T 5) ((vt p (l.take k)).map qq)/\T 1= .fn (.func f) [] cs/\T 8=x/\T 9=i64 l.length/\T 10=i64 k/\m=l.length - k) l.length
  ⟨0,by omega,Pre.refl,.inl ⟨by simp only[go_sem],rfl⟩,by simp only[go_sem],by simp only[go_sem],by simp only[go_sem],by(simp only[go_sem]<;>rfl),rfl⟩ ?_
 rintro m T h' ⟨k,W,b,z,t1,t8,t9,t10,rfl⟩
 simp only[go_sem,t9,t10]
 refine ways (λe=>?_) (λe=>?_)
 ·have d:=dlt e
  obtain⟨w,rfl,u⟩:=b
  have t:SlOf (h++w) x 5 (l.map vb):=I.app _
  have G:=t.at (i:=k) (by simpa using d)
  have j:(l.map vb)[k]? =some (vb l[k]):=by rw[zr,zh d];rfl
  have E:(k:Int)<l.length:=by omega
  have a:=jba p (l.take k) l[k]
  rw[zD d] at a
  have n:l[k]∈l:=zw d
  obtain⟨y,R⟩:∃y,y=l[k]:=⟨_,rfl⟩
  rw[<-R] at j a n
  have fin:k+1<=l.length:=by omega
  have X:List.length (vb y)=5:=rfl
  have c:=Q y n (w++[.box 146 (vb y)])
  rw[<-zn] at c
  have b:Pre h (h++w):=⟨w,rfl,u⟩
  generalize h++w=h' at*
  simp only[go_sem,t8,t10,t1,G,t.rows,j,E,zb,Int.toNat_natCast,zg]
  refine zi c ?_
  rintro _ U ⟨rfl,S⟩
  subst S
  simp only[go_sem]
  refine ways (λq=>?_) (λq=>?_)
  ·rw[q] at a
   simp only[if_true] at a
   rcases z with⟨t5,s⟩|⟨id,st,A,t5,D⟩
   ·simp only[go_sem,t5,t10]
    refine⟨l.length - (k+1),by omega,k+1,fin,b.app (zp rfl (zp rfl (zF rfl))),.inr ⟨_,_,by have:=b.len;omega,rfl,?_⟩,t1,t8,t9,qc (by omega) rfl,rfl⟩
    rw[a,zy,s,zN rfl]
    rfl
   ·have C:(((vt p (l.take k)).map qq).length+1)*17<=140737488355328:=by
     have:=Wj p (l.take k)
     rw[zX] at this
     rw[zb];omega
    have K:∀M,(h'++M)[id]? =some (.row 143 2 ((vt p (l.take k)).map qq) st):=λM=>zf D
    simp only[go_sem,t5,t10,K,C]
    refine⟨l.length - (k+1),by omega,k+1,fin,(b.app (zp rfl (zF rfl))).set A rfl,.inr ⟨id,st+1,A,rfl,?_⟩,t1,t8,t9,qc (by omega) rfl,rfl⟩
    rw[a,zy]
    exact zq (K _)
  ·have q:p y=false:=by simpa using q
   rw[q] at a
   simp only[Bool.false_eq_true,if_false] at a
   simp only[go_sem,t10]
   exact⟨l.length - (k+1),by omega,k+1,fin,b.app (zF rfl),by rw[a];exact z.app _,t1,t8,t9,qc (by omega) rfl,rfl⟩
 ·have N:=xc e
  have H:k=l.length:=by omega
  subst H
  rw[zY] at z
  have O:=Wj p l
  rcases z with⟨t5,s⟩|⟨id,st,A,t5,D⟩
  ·have s:vt p l=[]:=by simpa using s
   simp only[go_sem,t5]
   refine zi (Yta _) ?_
   rintro _ F ⟨rfl,P⟩
   subst P
   simp only[go_sem]
   refine zi (c65 _ (.v (.slice none 0 0)) [] ⟨rfl,λh=>absurd rfl h⟩ (by simp)) ?_
   rintro r F ⟨L2,rfl,n1,n2⟩
   simp only[go_sem]
   obtain⟨L,rfl,u⟩:=b
   exact⟨r,by simp only[go_sem],.inl ⟨L++L2,by simp,u.app n1,by rw[s];exact n2.of rfl⟩⟩
  ·simp only[go_sem,t5]
   refine zi (c96 _ id st _ D) ?_
   rintro _ F ⟨rfl,rfl⟩
   simp only[go_sem]
   refine zi (c65 _ (.sl 2 ((vt p l).map qq)) (vt p l) ⟨rfl,λ_=>rfl⟩ (by omega)) ?_
   rintro r F ⟨L2,rfl,n1,n2⟩
   simp only[go_sem]
   have b:=b.set (o:= .gone) A rfl
   obtain⟨L,J,u⟩:=b
   exact⟨r,by simp only[go_sem],.inl ⟨L++L2,by rw[J];simp,u.app n1,n2.of J⟩⟩
def qL(l:List Seg):List Spn:=qg (l.map spS)
def vQ(l:List Seg)(k:Int):List Spn:=qg ((l.filter λg=>g.kind==k).map spS)
theorem c31(h:List Ob)(x:AV)(l:List Seg)(c:SlOf h x 5 (l.map vb))(b:l.length<1048576):
  ACalls Tryz.prog 23 [x] h λr h'=>∃L,h'=h++L/\NoRes L/\New h 2 r ((qL l).map qq) L:=by
 have hex:∃r h',(∃L,h'=h++L/\NoRes L/\New h 2 r ((qL l).map qq) L)/\ResK h h':=
  ⟨.sl 2 _,_,⟨[],rfl,xr,λ_ _=>⟨rfl,λ_=>rfl⟩⟩,q8⟩
 have a:vt (λ_=>true) l=l.map spS:=by unfold vt;rw[Wb λ_ _=>rfl]
 refine zl Tryz.f23 [.tmp 2] 5 rfl rfl rfl rfl rfl rfl (by decide) (hex) λB=>?_
 simp only[go_sem]
 refine zi (c66 h x 72 [] l (λ_=>true) c b λg _ L=>c67 g _) ?_
 rintro r d ⟨L2,rfl,n1,n2⟩
 simp only[go_sem]
 exact⟨r,by simp only[go_sem],.inl ⟨L2,rfl,n1,by rw[a] at n2;exact n2⟩⟩
theorem c32(h:List Ob)(x:AV)(l:List Seg)(k:Int)(b:SlOf h x 5 (l.map vb))(a:l.length<1048576):
  ACalls Tryz.prog 243 [x,i64 k] h λr h'=>∃L,h'=h++L/\NoRes L/\New h 2 r ((vQ l k).map qq) L:=by
 have hex:∃r h',(∃L,h'=h++L/\NoRes L/\New h 2 r ((vQ l k).map qq) L)/\ResK h h':=
  ⟨.sl 2 _,_,⟨[],rfl,xr,λ_ _=>⟨rfl,λ_=>rfl⟩⟩,q8⟩
 refine zl Tryz.f243 [.tmp 4] 8 rfl rfl rfl rfl rfl rfl (by decide) (hex) λB=>?_
 simp only[go_sem]
 refine zi (c66 _ x 285 [.ptr h.length 0] l (λg=>g.kind==k) (b.app _) a λg _ L=>c68 _ _ g k (by rw[zn,zM rfl];rfl)) ?_
 rintro r c ⟨L2,rfl,n1,n2⟩
 simp only[go_sem]
 exact⟨r,by simp only[go_sem],.inl ⟨_,rfl,zp rfl n1,n2.of rfl⟩⟩
theorem x2a(l:List Spn)(x:Spn):jy (l++[x])=jy l+(x.to_ - x.from_):=by simp[jy]
theorem Wk{l:List Spn}(a:∀s∈l,0<=s.from_/\s.from_<s.to_/\s.to_<=32054400):0<=jy l/\jy l<=32054400*l.length:=by
 induction l with
 | nil=>simp[jy]
 | cons x l b=>
   have:=b λs h=>a s (.tail _ h)
   have:=a x (.head _)
   simp only[jy,List.map_cons,List.sum_cons,List.length_cons] at*
   omega
theorem c30(h:List Ob)(x:AV)(l:List Spn)(C:SlOf h x 2 (l.map qq))(F:l.length<1048576):
  ACalls Tryz.prog 22 [x] h λr h'=>r=i64 (jy (qg l))/\h'=h:=by
 have d:= @kE l
 have g:=z6 l
 obtain⟨n,w⟩:∃n,n=qg l:=⟨_,rfl⟩
 rw[<-w] at d g
 refine zl Tryz.f22 [.tmp 2] 21 rfl rfl rfl rfl rfl rfl (by decide) (⟨_,_,⟨rfl,rfl⟩,.refl⟩) λB=>?_
 simp only[go_sem]
 refine zi (c65 _ x l C (by omega)) ?_
 rintro r G ⟨L2,rfl,n1,n2⟩
 rw[<-w] at n2⊢
 have v:SlOf (h++L2) r 2 (n.map qq):=n2 h rfl
 simp only[go_sem,v.rows,zb]
 refine zO (by decide) (λm T h'=>∃k:Nat,k<=n.length/\Pre (h++L2) h'/\T 2=i64 (jy (n.take k))/\T 6=r/\T 7=i64 n.length/\T 8=i64 k/\m=n.length - k) n.length
  ⟨0,by omega,Pre.refl,by(simp only[go_sem]<;>rfl),by simp only[go_sem],by simp only[go_sem],by(simp only[go_sem]<;>rfl),rfl⟩ ?_
 rintro m T h' ⟨k,I,a,t2,t6,z,t8,rfl⟩
 simp only[go_sem,z,t8]
 refine ways (λe=>?_) (λe=>?_)
 ·have b:=dlt e
  have j:=a.sl v
  have t:=j.at (i:=k) (by simpa using b)
  have c:(n.map qq)[k]? =some (qq n[k]):=by rw[zr,zh b];rfl
  have p:(k:Int)<n.length:=by omega
  have f:=x2a (n.take k) n[k]
  rw[zD b] at f
  have o:=Wk (l:=n.take k) λs h=>d s (List.mem_of_mem_take h)
  have q:=d _ (zw b)
  rw[zX] at o
  obtain⟨y,D⟩:∃y,y=n[k]:=⟨_,rfl⟩
  rw[<-D] at c f q
  have J:List.length (qq y)=2:=rfl
  simp only[go_sem,t2,t6,t8,t,j.rows,c,p,zb,Int.toNat_natCast,zg]
  refine⟨n.length - (k+1),by omega,k+1,by omega,a.app (zF rfl),?_,z,qc (by omega) rfl,rfl⟩
  rw[f]
  show i64 (wr (jy (n.take k)+wr (y.to_ - y.from_)))=_
  rw[qb (n:=y.to_ - y.from_) (by unfold Fit;omega),qb (by unfold Fit;omega)]
 ·have A:=xc e
  have u:k=n.length:=by omega
  subst u
  rw[zY] at t2
  obtain⟨H,rfl,E⟩:=a
  rw[zn]
  simp only[go_sem,t2]
  refine zk ?_<;>(simp only[go_sem]<;>try rfl)
attribute [go_sem] Q1a Q2a y5a wja y6a Kja
def s0:Setup:=⟨1,[],(1,1),[((1,1),(1,1))],[(1,1)],[(1,1)],0,900,3600,0,0,0,0,0,0,0,0,[1],0,0,0,[]⟩
def f0:List Flg:=[⟨4,3⟩,⟨5,1⟩]
def a0(n:Nat):SA:=⟨.v (.slice none 0 0),.tl (n+1) 0,.tl (n+2) 0,.tl (n+3) 0,.tl (n+4) 0,.v (.slice none 0 0)⟩
theorem vM{h:List Ob}{id ty e st:Nat}{xs:List (List AV)}(k:h[id]? =some (.row ty e xs st)):SlOf h (.tl id st) e xs:=⟨by rw[qS,k,vO,if_pos rfl],λ_=>by rw[j5,k,yh]⟩
theorem kja{h:List Ob}{e:Nat}:SlOf h (.v (.slice none 0 0)) e []:=⟨rfl,λh=>absurd rfl h⟩
end Go.Proofs.YtigdlmpjijhpaaaGreat.Ax
namespace Go.Proofs.YtigdlmpjijhpaaaGreat.Ax
open Go Go.RowKit Go.ChangeShapes Go.WideShapes
section
variable {H:Type} {enc:TypeId × Value->H} {P:Program} {w:World} {base:Nat} {held:Bool}
def zka(P:Program):Nat->TypeId->Bool
 | 0,_=>false
 | n+1,t=>match P.underlying t with
   | some (.int .i64)=>true
   | some (.struct a)=>(List.range (P.cellsOf t)).all λk=>a.toList.any λf=>zka P n f.type && (decide (f.offset<=k) && decide (k<f.offset+P.cellsOf f.type))
   | _=>false
theorem Ku{spare:Nat->Bool}:∀(n:Nat) {t:TypeId} {a:Nat} {cs:List Value} {x:DataW H × List MemPlace},zka P n t=true->DataW.trod enc P w base spare held a t cs=some x->∀v∈cs,∃z,v= .int .i64 z/\(Lit.int .i64 z).wf=true
 | 0,_,_,_,_,h,_=>by cases h
 | n+1,t,a,cs,x,h,p=>by
   unfold zka at h
   split at h
   ·rename_i i
    obtain⟨z,rfl,_,s⟩:=DataW.trod_int i p
    intro v d
    simp at d
    exact⟨z,d,s⟩
   ·rename_i b i
    obtain⟨xs,n',_,_,C,o,B⟩:=DataW.trod_struct i p
    intro v d
    obtain⟨k,A,rfl⟩:=List.mem_iff_getElem.1 d
    have m:=zL.1 h k (jg.2 (by omega))
    obtain⟨f,g,c⟩:=List.any_eq_true.1 m
    simp only[zj,decide_eq_true_eq] at c
    obtain⟨l,q,r⟩:=c
    obtain⟨j,y,rfl⟩:=List.mem_iff_getElem.1 g
    have e:j<b.size:=by simpa using y
    have:=B j _ (by rw[zT e])
    rw[zh (by omega)] at this
    refine Ku n l this _ ?_
    rw[List.mem_iff_getElem?]
    refine⟨k - b.toList[j].offset,?_⟩
    have u:b[j]=b.toList[j]:=by simp
    rw[u,qO,if_pos (by omega),List.getElem?_drop,show b.toList[j].offset+(k - b.toList[j].offset)=k by omega,zh A]
   ·cases h
abbrev gN:Gh:=⟨λ_=>0,λ_=>undef⟩
abbrev c0(w:World):Ctx:=ctx w gN []
theorem rd0{a:Addr}{u:Value}(h:w.cell? a=some u):(c0 w).rd a u:=⟨λ⟨i,o,hi,_⟩=>(by cases hi),h⟩
theorem zla{c:Ctx}{A:Addr}:∀(a:List Int) (k:Nat),(∀j z,a[j]? =some z->c.rd (A.add (k+j)) (.int .i64 z))->ACells c (some A) k (a.map i64)
 | [],_,_=>trivial
 | z::a,k,h=>by
   refine⟨⟨A,_,rfl,by simpa using h 0 z rfl,rfl⟩,zla a (k+1) λj b d=>?_⟩
   have:=h (j+1) b (by simpa using d)
   rwa[show k+(j+1)=k+1+j by omega] at this
theorem jYa{c:Ctx}{A:Addr}{e:Nat}:∀(rows:List (List Int)) (i:Nat),(∀r∈rows,r.length=e)->(∀j r,rows[j]? =some r->∀k z,r[k]? =some z->c.rd (A.add ((i+j)*e+k)) (.int .i64 z))->ARows c (some A) e i (rows.map (·.map i64))
 | [],_,_,_=>trivial
 | r::rows,i,f,d=>by
   refine⟨⟨by simpa using f r (.head _),zla r (i*e) λk z a=>by simpa using d 0 r rfl k z a⟩,jYa rows (i+1) (λq b=>f q (.tail _ b)) λj q b k z a=>?_⟩
   have:=d (j+1) q (by simpa using b) k z a
   rwa[show i+(j+1)=i+1+j by omega] at this
def Qd(w:World)(e:Nat)(v:Value)(a:AV)(rows:List (List Int)):Prop:=
 AR (c0 w) a v/\SlOf [] a e (rows.map (·.map i64))/\∀r∈rows,r.length=e/\∀z∈r,(Lit.int .i64 z).wf=true
theorem zma{t e:TypeId}{n q:Nat}{v:Value}{x:DataW H × List MemPlace}(L:P.underlying t=some (.slice e))(C:zka P n e=true)(h:DataW.trod enc P w base (λ_=>true) held q t [v]=some x):
  ∃a rows,Qd w (P.cellsOf e) v a rows/\rows.length<=maxLen:=by
 rcases Go.Deep.open_slice L h with⟨b,_⟩|⟨a,len,cap,m,n',D,O,b,Q,I,N,B,rfl,J⟩
 ·injection b with b _
  subst b
  exact⟨.v (.slice none 0 0),[],⟨rfl,⟨rfl,λh=>absurd rfl h⟩,λ_ h=>by cases h⟩,Nat.zero_le _⟩
 ·injection b with b _
  subst b
  have each:∀i,i<len->∃r:List Int,r.length=P.cellsOf e/\(∀z∈r,(Lit.int .i64 z).wf=true)/\∀k z,r[k]? =some z->w.cell? (a.add (i*P.cellsOf e+k))=some (.int .i64 z):=by
   intro i hi
   obtain⟨cs',M,K⟩:=J i (by rw[B];simp;omega)
   obtain⟨_,d,p⟩:=World.cells?_some M
   have y:=Ku n C K
   have key:∀k,∃z:Int,k<cs'.length->cs'[k]? =some (.int .i64 z)/\(Lit.int .i64 z).wf=true:=λk=>by
    by_cases c:k<cs'.length
    ·obtain⟨z,A,F⟩:=y cs'[k] (zw c)
     exact⟨z,λ_=>⟨by rw[zh c,A],F⟩⟩
    ·exact⟨0,λh=>absurd h c⟩
   obtain⟨f,o⟩:=Classical.axiomOfChoice key
   refine⟨(List.range (P.cellsOf e)).map f,by simp,λz E=>?_,λk z c=>?_⟩
   ·obtain⟨k,c,rfl⟩:=zx.1 E
    exact(o k (by have:=jg.1 c;omega)).2
   ·have s:k<P.cellsOf e:=by have:=(zd.1 c).1;simpa using this
    have E:f k=z:=by simpa [s] using c
    rw[<-Addr.add_add,p k s,(o k (by omega)).1,E]
  have:∃f:Nat->List Int,∀i,i<len->(f i).length=P.cellsOf e/\(∀z∈f i,(Lit.int .i64 z).wf=true)/\∀k z,(f i)[k]? =some z->w.cell? (a.add (i*P.cellsOf e+k))=some (.int .i64 z):=Go.Deep.choose_lt each
  obtain⟨f,o⟩:=this
  have d:((List.range len).map f).length=len:=by simp
  have g:∀r∈(List.range len).map f,∃i,i<len/\f i=r:=λr l=>by
   obtain⟨i,hi,e⟩:=zx.1 l
   exact⟨i,jg.1 hi,e⟩
  refine⟨.sl (P.cellsOf e) (((List.range len).map f).map (·.map i64)),(List.range len).map f,⟨⟨some a,cap,by simp,by simpa using I,?_⟩,⟨rfl,λ_=>rfl⟩,λr l=>?_⟩,by rw[d];omega⟩
  ·refine jYa _ 0 (λr l=>?_) λj r G k z c=>?_
   ·obtain⟨i,hi,rfl⟩:=g r l
    exact(o i hi).1
   ·have u:j<len:=by have:=(zd.1 G).1;simpa using this
    have l:f j=r:=by simpa [u] using G
    rw[Nat.zero_add]
    exact rd0 ((o j u).2.2 k z (by rw[l];exact c))
  ·obtain⟨i,hi,rfl⟩:=g r l
   exact⟨(o i hi).1,(o i hi).2.1⟩
theorem jZa{t e:TypeId}{n b:Nat}{v:Value}{x:DataW H × List MemPlace}(d:P.underlying t=some (.slice e))(c:zka P n e=true)(h:DataW.trod enc P w base (λ_=>true) held b t [v]=some x):
  ∃a rows,Qd w (P.cellsOf e) v a rows:=by
 obtain⟨a,rows,k,_⟩:=zma d c h
 exact⟨a,rows,k⟩
end
theorem wf_fit{z:Int}(h:(Lit.int .i64 z).wf=true):Fit z:=by
 simp[Lit.wf,IntKind.min,IntKind.max,IntKind.bits,IntKind.signed] at h
 unfold Fit
 omega
def xO(r:List Int)(k:Nat):Int:=r.getD k 0
def XRa(r:List Int):Ev:=⟨xO r 0,xO r 1,xO r 2,xO r 3,xO r 4,xO r 5,xO r 6,xO r 7,xO r 8,xO r 9,xO r 10⟩
theorem KXa:∀ {r:List Int},r.length=11->r.map i64=evC (XRa r)
 | [_,_,_,_,_,_,_,_,_,_,_],_=>rfl
def J8(r:List Int):qd:=(xO r 0,xO r 1)
theorem z9a:∀ {r:List Int},r.length=2->r.map i64=jG (J8 r)
 | [_,_],_=>rfl
def kBa(r:List Int):Way:=(xO r 0,xO r 1,xO r 2)
theorem J9a:∀ {r:List Int},r.length=3->r.map i64=X5 (kBa r)
 | [_,_,_],_=>rfl
def kCa(r:List Int):Elt:=((xO r 0,xO r 1),(xO r 2,xO r 3))
theorem Xaa:∀ {r:List Int},r.length=4->r.map i64=X6 (kCa r)
 | [_,_,_,_],_=>rfl
theorem Xba:∀ {r:List Int},r.length=1->r.map i64=qI (xO r 0)
 | [_],_=>rfl
theorem QW{r:List Int}(h:∀z∈r,(Lit.int .i64 z).wf=true)(k:Nat):Fit (xO r k):=by
 unfold xO
 rw[zG]
 by_cases a:k<r.length
 ·rw[zh a];exact wf_fit (h _ (zw a))
 ·rw[qf (by omega)];simp[Fit]
theorem Zh{α:Type}{f:List Int->α}{g:α->List AV}{e:Nat}(a:∀ {r:List Int},r.length=e->r.map i64=g (f r)){rows:List (List Int)}(h:∀r∈rows,r.length=e):rows.map (·.map i64)=(rows.map f).map g:=by
 rw[yq]
 exact List.map_congr_left λr b=>a (h r b)
structure SFit0 (s:Setup):Prop where
 places:Fit s.places
 pace:jf s.pace
 elements:∀e∈s.elements,jf e.1/\jf e.2
 classes:∀p∈s.classes,jf p
 gears:∀p∈s.gears,jf p
 tiers:∀t∈s.tiers,jf t
 nw:s.ways.length<9223372036854775808
 ne:s.elements.length<9223372036854775808
 nc:s.classes.length<9223372036854775808
 ng:s.gears.length<9223372036854775808
 nr:s.rates.length<9223372036854775808
 nt:s.tiers.length<9223372036854775808
theorem SFit0.few{s:Setup}(f:SFit0 s)(h:x5a s=true):SFit s:=by
 simp only[x5a,decide_eq_true_eq] at h
 obtain⟨d,a,b,g,e,c⟩:=h
 exact⟨f.places,f.pace,f.elements,f.classes,f.gears,f.tiers,by omega,by omega,by omega,by omega,by omega,by omega⟩
def InEvs(w:World)(v:Value):Prop:=∃(x:AV) (l:List Ev),AR (c0 w) x v/\SlOf [] x 11 (l.map evC)
def InSet(w:World)(v:Value):Prop:=∃(s:Setup) (a:SA),AR (c0 w) (jm s a) v/\SIn [] s a/\SFit0 s
section
variable {H:Type} {enc:TypeId × Value->H} {w:World} {base:Nat} {held:Bool}
theorem evs_in{b:Nat}{v:Value}{x:DataW H × List MemPlace}(h:DataW.trod enc Tryz.prog w base (λ_=>true) held b 31 [v]=some x):InEvs w v:=by
 obtain⟨a,rows,i,c,d⟩:=jZa Tryz.underlying31 (n:=2) (by kernel_rfl) h
 have e:Tryz.prog.cellsOf 75=11:=by kernel_rfl
 rw[e] at c d
 rw[Zh (f:=XRa) (g:=evC) KXa λr j=>(d r j).1] at c
 exact⟨a,_,i,c⟩
theorem zna{t e:TypeId}{n b:Nat}{v:Value}{y:Option (DataW H × List MemPlace)}(d:Tryz.prog.underlying t=some (.slice e))(c:zka Tryz.prog n e=true)(h:DataW.trod enc Tryz.prog w base (λ_=>true) held b t [v]=y)(f:y.isSome=true):∃a rows,Qd w (Tryz.prog.cellsOf e) v a rows/\rows.length<=9223372036854775807:=by
 cases y with
 | none=>cases f
 | some y=>exact zma d c h
theorem vN{a:Nat}{v:Value}{y:Option (DataW H × List MemPlace)}(h:DataW.trod enc Tryz.prog w base (λ_=>true) held a 3 [v]=y)(d:y.isSome=true):∃z,v= .int .i64 z/\Fit z:=by
 cases y with
 | none=>cases d
 | some y=>
   obtain⟨z,b,_,c⟩:=DataW.trod_int Tryz.underlying3 h
   injection b with b _
   exact⟨z,b,wf_fit c⟩
theorem KYa{a:Nat}{v0 v1:Value}{y:Option (DataW H × List MemPlace)}(h:DataW.trod enc Tryz.prog w base (λ_=>true) held a 24 [v0,v1]=y)(c:y.isSome=true):∃z0 b,v0= .int .i64 z0/\v1= .int .i64 b/\Fit z0/\Fit b:=by
 cases y with
 | none=>cases c
 | some y=>
   have:=Ku (n:=2) (by kernel_rfl) h
   obtain⟨z0,h0,d⟩:=this v0 (by simp)
   obtain⟨b,e,f⟩:=this v1 (by simp)
   exact⟨z0,b,h0,e,wf_fit d,wf_fit f⟩
set_option maxHeartbeats 1000000 in
set_option maxRecDepth 100000 in
theorem setup_in{r:Reach}{b0:Nat}{v:Value}{d:DataW H}{p:List MemPlace}(hv:Value.okWide Tryz.prog w r b0 30 v)(h:DataW.Trod enc Tryz.prog w base (λ_=>true) held 30 v d p):InSet w v:=by
 simp only[Value.okWide,Tryz.underlying30] at hv
 obtain⟨cs,rfl,_,_⟩:=hv
 obtain⟨y,k⟩:=h
 have k:DataW.trod enc Tryz.prog w base (λ_=>true) held y 30 cs.toList=some (d,p):=by simpa [Value.cells] using k
 obtain⟨xs,n,_,_,R,z,a⟩:=DataW.trod_struct Tryz.underlying30 k
 have M:Tryz.prog.cellsOf 30=23:=by kernel_rfl
 have k3:Tryz.prog.cellsOf 3=1:=by kernel_rfl
 have ι:Tryz.prog.cellsOf 22=1:=by kernel_rfl
 have m:Tryz.prog.cellsOf 24=2:=by kernel_rfl
 have U:Tryz.prog.cellsOf 25=1:=by kernel_rfl
 have η:Tryz.prog.cellsOf 26=1:=by kernel_rfl
 have W:Tryz.prog.cellsOf 27=1:=by kernel_rfl
 have N:Tryz.prog.cellsOf 28=1:=by kernel_rfl
 have t:Tryz.prog.cellsOf 225=3:=by kernel_rfl
 have F:Tryz.prog.cellsOf 183=4:=by kernel_rfl
 have β:Tryz.prog.cellsOf 185=2:=by kernel_rfl
 rw[M] at R
 have b:∀j,j<22->(xs[j]?).isSome=true:=λj hj=>by
  have:j<xs.length:=by rw[z];exact hj
  simp[this]
 generalize E:cs.toList=L at R a
 match L,R with
 | [v0,v1,v2,v3,v4,v5,v6,v7,v8,v9,v10,v11,v12,v13,v14,v15,v16,v17,ψ,v19,v20,v21,v22],_=>
   have f0:=a 0 ⟨"Places",3,0,false, "", "",0⟩ rfl
   have f1:=a 1 ⟨"Ways",22,1,false, "", "",8⟩ rfl
   have f2:=a 2 ⟨"Pace",24,2,false, "", "",32⟩ rfl
   have f3:=a 3 ⟨"Elements",25,4,false, "", "",48⟩ rfl
   have f4:=a 4 ⟨"Classes",26,5,false, "", "",72⟩ rfl
   have f5:=a 5 ⟨"Gears",26,6,false, "", "",96⟩ rfl
   have f6:=a 6 ⟨"Allow",3,7,false, "", "",120⟩ rfl
   have f7:=a 7 ⟨"Unit",3,8,false, "", "",128⟩ rfl
   have f8:=a 8 ⟨"Cap",3,9,false, "", "",136⟩ rfl
   have f9:=a 9 ⟨"PaidBreak",3,10,false, "", "",144⟩ rfl
   have u:=a 10 ⟨"AutoAfter",3,11,false, "", "",152⟩ rfl
   have C:=a 11 ⟨"AutoBreak",3,12,false, "", "",160⟩ rfl
   have s:=a 12 ⟨"DayReg",3,13,false, "", "",168⟩ rfl
   have B:=a 13 ⟨"DayOver",3,14,false, "", "",176⟩ rfl
   have f14:=a 14 ⟨"WeekReg",3,15,false, "", "",184⟩ rfl
   have f15:=a 15 ⟨"NightFrom",3,16,false, "", "",192⟩ rfl
   have q:=a 16 ⟨"NightTo",3,17,false, "", "",200⟩ rfl
   have D:=a 17 ⟨"Rates",27,18,false, "", "",208⟩ rfl
   have A:=a 18 ⟨"Diff",3,19,false, "", "",232⟩ rfl
   have x:=a 19 ⟨"Least",3,20,false, "", "",240⟩ rfl
   have f20:=a 20 ⟨"Fault",3,21,false, "", "",248⟩ rfl
   have f21:=a 21 ⟨"Tiers",28,22,false, "", "",256⟩ rfl
   simp only[List.drop_succ_cons,List.drop_zero,List.take_succ_cons,List.take_zero,List.take_nil,k3,ι,m,U,η,W,N] at f0 f1 f2 f3 f4 f5 f6 f7 f8 f9 u C s B f14 f15 q D A x f20 f21
   obtain⟨z0,rfl,g0⟩:=vN f0 (b 0 (by omega))
   obtain⟨a1,r1,⟨m1,n1,o1⟩,q1⟩:=zna Tryz.underlying22 (n:=3) (by kernel_rfl) f1 (b 1 (by omega))
   rw[t] at n1 o1
   obtain⟨z2,z3,rfl,rfl,g2,g3⟩:=KYa f2 (b 2 (by omega))
   obtain⟨a4,r4,⟨m4,n4,Y⟩,q4⟩:=zna Tryz.underlying25 (n:=3) (by kernel_rfl) f3 (b 3 (by omega))
   rw[F] at n4 Y
   obtain⟨a5,r5,⟨m5,n5,O⟩,q5⟩:=zna Tryz.underlying26 (n:=3) (by kernel_rfl) f4 (b 4 (by omega))
   rw[m] at n5 O
   obtain⟨a6,r6,⟨m6,n6,J⟩,q6⟩:=zna Tryz.underlying26 (n:=3) (by kernel_rfl) f5 (b 5 (by omega))
   rw[m] at n6 J
   obtain⟨z7,rfl,g7⟩:=vN f6 (b 6 (by omega))
   obtain⟨z8,rfl,g8⟩:=vN f7 (b 7 (by omega))
   obtain⟨z9,rfl,g9⟩:=vN f8 (b 8 (by omega))
   obtain⟨θ,rfl,g10⟩:=vN f9 (b 9 (by omega))
   obtain⟨Z,rfl,χ⟩:=vN u (b 10 (by omega))
   obtain⟨K,rfl,ω⟩:=vN C (b 11 (by omega))
   obtain⟨γ,rfl,g13⟩:=vN s (b 12 (by omega))
   obtain⟨V,rfl,g14⟩:=vN B (b 13 (by omega))
   obtain⟨X,rfl,g15⟩:=vN f14 (b 14 (by omega))
   obtain⟨I,rfl,g16⟩:=vN f15 (b 15 (by omega))
   obtain⟨T,rfl,g17⟩:=vN q (b 16 (by omega))
   obtain⟨ε,δ,⟨Q,n18,o⟩,q18⟩:=zna Tryz.underlying27 (n:=3) (by kernel_rfl) D (b 17 (by omega))
   rw[k3] at n18 o
   obtain⟨G,rfl,g19⟩:=vN A (b 18 (by omega))
   obtain⟨ζ,rfl,g20⟩:=vN x (b 19 (by omega))
   obtain⟨α,rfl,g21⟩:=vN f20 (b 20 (by omega))
   obtain⟨a22,P,⟨S,n22,l⟩,q22⟩:=zna Tryz.underlying28 (n:=3) (by kernel_rfl) f21 (b 21 (by omega))
   rw[β] at n22 l
   rw[Zh (f:=kBa) (g:=X5) J9a λr c=>(o1 r c).1] at n1
   rw[Zh (f:=kCa) (g:=X6) Xaa λr c=>(Y r c).1] at n4
   rw[Zh (f:=J8) (g:=jG) z9a λr c=>(O r c).1] at n5
   rw[Zh (f:=J8) (g:=jG) z9a λr c=>(J r c).1] at n6
   rw[Zh (f:=(λr=>xO r 0)) (g:=qI) Xba λr c=>(o r c).1] at n18
   rw[Zh (f:=J8) (g:=jG) z9a λr c=>(l r c).1] at n22
   refine⟨⟨z0,r1.map kBa,(z2,z3),r4.map kCa,r5.map J8,r6.map J8,z7,z8,z9,θ,Z,K,γ,V,X,I,T,δ.map (λr=>xO r 0),G,ζ,α,P.map J8⟩,⟨a1,a4,a5,a6,ε,a22⟩,⟨cs,rfl,?_⟩,⟨n1,n4,n5,n6,n18,n22⟩,⟨g0,⟨g2,g3⟩,?_,?_,?_,?_,by rw[zb];omega,by rw[zb];omega,by rw[zb];omega,by rw[zb];omega,by rw[zb];omega,by rw[zb];omega⟩⟩
   ·rw[E]
    exact⟨_,_,rfl,rfl,⟨_,_,rfl,m1,⟨_,_,rfl,rfl,⟨_,_,rfl,rfl,⟨_,_,rfl,m4,⟨_,_,rfl,m5,⟨_,_,rfl,m6,⟨_,_,rfl,rfl,⟨_,_,rfl,rfl,⟨_,_,rfl,rfl,⟨_,_,rfl,rfl,⟨_,_,rfl,rfl,⟨_,_,rfl,rfl,⟨_,_,rfl,rfl,⟨_,_,rfl,rfl,⟨_,_,rfl,rfl,⟨_,_,rfl,rfl,⟨_,_,rfl,rfl,⟨_,_,rfl,Q,⟨_,_,rfl,rfl,⟨_,_,rfl,rfl,⟨_,_,rfl,rfl,⟨_,_,rfl,S,rfl⟩⟩⟩⟩⟩⟩⟩⟩⟩⟩⟩⟩⟩⟩⟩⟩⟩⟩⟩⟩⟩⟩⟩
   ·intro e i
    obtain⟨r,c,rfl⟩:=zx.1 i
    have:=QW (Y r c).2
    exact⟨⟨this 0,this 1⟩,this 2,this 3⟩
   ·intro e i
    obtain⟨r,c,rfl⟩:=zx.1 i
    have:=QW (O r c).2
    exact⟨this 0,this 1⟩
   ·intro e i
    obtain⟨r,c,rfl⟩:=zx.1 i
    have:=QW (J r c).2
    exact⟨this 0,this 1⟩
   ·intro e i
    obtain⟨r,c,rfl⟩:=zx.1 i
    have:=QW (l r c).2
    exact⟨this 0,this 1⟩
end
theorem run_law{f:FuncId}{args:List AV}{vs:List Value}{w:World}(c:ACalls Tryz.prog f args [] λr h'=>r=bl true/\h'=[])(k:ARs (c0 w) args vs):Calls Tryz.prog f vs.toArray w λe w'=>e= .returned (.bool true)/\Below w.heap.size w w':=by
 have g:fill (λ_=> .res) ([]:List Ob)=[]:=Yp
 have a:HOk w.heap.size w gN []:=⟨λi o hi=>(by cases hi),λi j o p b _ hi=>(by cases hi)⟩
 refine(c.2.2 (λ_=> .res) (λ_ _=>rfl) w.heap.size w gN vs (by rw[g];exact a) (zo _) (by rw[g];exact k)).mono ?_
 rintro e w' ⟨v,r,h',g',rfl,⟨rfl,rfl⟩,_,h,d⟩
 have d:v= .bool true:=d
 subst d
 exact⟨rfl,h.below⟩
