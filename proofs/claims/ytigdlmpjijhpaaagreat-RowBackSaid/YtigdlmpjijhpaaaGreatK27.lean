import Derived.Test.YtigdlmpjijhpaaaGreatKA
import Derived.Test.YtigdlmpjijhpaaaGreatK20
set_option linter.all false
namespace Go.Proofs.YtigdlmpjijhpaaaGreat.Ax
open Go Go.Proofs
set_option maxRecDepth 100000
attribute [go_sem] XBa Kia
theorem Jja{b:Bool}:(b==false)= !b:=by cases b<;>rfl
theorem c40:xv Tryz.prog 123 [] (rat (0,1)):=λh=>by
 refine zl Tryz.f123 [.cell 0 24] 2 rfl rfl rfl rfl rfl rfl (by decide) (⟨_,_,⟨rfl,rfl⟩,.refl⟩) λB=>?_
 simp only[go_sem]
 refine zk ?_<;>(simp only[go_sem]<;>try rfl)
def yM(id:Int)(e:Ev):Bool:=e.id==id && e.kind==3
theorem c43(h:List Ob)(i:Nat)(e:Ev)(g:Seg)(hi:h[i]? =some (.box 146 (vb g))):ACalls Tryz.prog 125 [evV e,.ptr i 0] h λr h'=>r=bl (yM g.id e)/\h'=h:=by
 have b:∀M,(h++M)[i]? =some (.box 146 (vb g)):=λM=>zf hi
 cases a:e.id==g.id with
 | false=>
   refine zl Tryz.f125 [.tmp 3] 14 rfl rfl rfl rfl rfl rfl (by decide) (⟨_,_,⟨rfl,rfl⟩,.refl⟩) λB=>?_
   simp only[go_sem,b,a,qE]
   refine zk ?_<;>(simp only[go_sem,yM,a,Bool.false_and]<;>try rfl)
 | true=>
   refine zl Tryz.f125 [.tmp 3] 14 rfl rfl rfl rfl rfl rfl (by decide) (⟨_,_,⟨rfl,rfl⟩,.refl⟩) λB=>?_
   simp only[go_sem,b,a,qE]
   refine zk ?_<;>(simp only[go_sem,yM,a,Bool.true_and]<;>try rfl)
def Z6(s:Setup)(w:Int)(e:Ev):Bool:=e.worker != w || !ZY s e
theorem c74(h:List Ob)(i j:Nat)(e:Ev)(w:Int)(s:Setup)(a:SA)(k:SIn h s a)(hi:h[i]? =some (.box 3 [i64 w]))(g:h[j]? =some (.box 30 (qa s a))):ACalls Tryz.prog 196 [evV e,.ptr i 0,.ptr j 0] h λr h'=>r=bl (Z6 s w e)/\h'=h:=by
 have d:∀M,(h++M)[i]? =some (.box 3 [i64 w]):=λM=>zf hi
 have b:∀M,(h++M)[j]? =some (.box 30 (qa s a)):=λM=>zf g
 cases c:e.worker != w with
 | true=>
   refine zl Tryz.f196 [.tmp 4] 15 rfl rfl rfl rfl rfl rfl (by decide) (⟨_,_,⟨rfl,rfl⟩,.refl⟩) λB=>?_
   simp only[go_sem,d,b,c,Jja,Bool.not_true,Bool.not_false]
   refine zk ?_<;>(simp only[go_sem,Z6,c,Bool.true_or]<;>try rfl)
 | false=>
   refine zl Tryz.f196 [.tmp 4] 15 rfl rfl rfl rfl rfl rfl (by decide) (⟨_,_,⟨rfl,rfl⟩,.refl⟩) λB=>?_
   simp only[go_sem,d,b,c,Jja,Bool.not_true,Bool.not_false]
   refine zi (c14 _ s a (k.app _) e) ?_
   rintro _ l ⟨rfl,f⟩
   subst f
   simp only[go_sem]
   refine zk ?_<;>(simp only[go_sem,Z6,c,Bool.false_or]<;>try rfl)
theorem c44(h:List Ob)(j:Nat)(n d b:Int)(a:qd)(e:Int)(f:h[j]? =some (.box 210 [i64 n,i64 d,i64 b])):
  ACalls Tryz.prog 127 [.ptr j 0,rat a,i64 e] h λr h'=>r= .tup []/\h'=h.set j (.box 210 (if b=0 then [i64 a.1,i64 a.2,i64 e] else [i64 n,i64 d,i64 b])):=by
 have l:∀M,(h++M)[j]? =some (.box 210 [i64 n,i64 d,i64 b]):=λM=>zf f
 have m:∀M o,(h++M).set j o=h.set j o++M:=λM o=>jc f
 have g:∀M o,(h.set j o++M)[j]? =some o:=λM o=>zf (zq f)
 have k:∀M o i,(h.set j o++M).set j i=h.set j i++M:=λM o i=>by
  rw[jc (zq f),qh]
 refine zl Tryz.f127 [] 19 rfl rfl rfl rfl rfl rfl (by decide) (⟨_,_,⟨rfl,rfl⟩,qH f rfl⟩) λB=>?_
 simp only[go_sem,l]
 refine ways (λc=>?_) (λc=>?_)
 ·have c:b=0:=by simpa using c
  simp only[go_sem,l,m,g,k]
  exact⟨.tup [],by simp only[go_sem],.inr ⟨_,_,rfl,by simp,rfl,KeepLt.refl.set rfl rfl,rfl,by rw[if_pos c]⟩⟩
 ·have c:¬ b=0:=by simpa using c
  simp only[go_sem]
  exact⟨.tup [],by simp only[go_sem],.inr ⟨h,_,rfl,rfl,rfl,KeepLt.refl,rfl,by rw[if_neg c,qX f]⟩⟩
def avI:AV->Int
 | .v (.int _ n)=>n
 | _=>0
def YX(r:List AV):Ev:=⟨avI (nth r 0),avI (nth r 1),avI (nth r 2),avI (nth r 3),avI (nth r 4),avI (nth r 5),avI (nth r 6),avI (nth r 7),avI (nth r 8),avI (nth r 9),avI (nth r 10)⟩
def x6a:Ev:=⟨0,0,0,0,0,0,0,0,0,0,0⟩
theorem zZa(e:Ev):YX (evC e)=e:=rfl
theorem Wp(p:Ev->Bool)(l:List Ev):(Xv (l.map evC) (λr=>p (YX r))= -1/\∀e∈l,p e=false)∨∃A x R,l=A++x::R/\Xv (l.map evC) (λr=>p (YX r))=(A.length:Int)/\p x=true/\∀e∈A,p e=false:=by
 by_cases h:∀e∈l,p e=false
 ·refine .inl ⟨yx λj b=>?_,h⟩
  rw[List.getElem_map,zZa]
  exact h _ (zw _)
 ·right
  induction l with
  | nil=>exact absurd (λe a=>by cases a) h
  | cons y l g=>
    cases c:p y with
    | true=>exact⟨[],y,l,rfl,yF (rows:=(y::l).map evC) (k:=0) (by simp) (λj b=>by omega) c,c,λe a=>by cases a⟩
    | false=>
      obtain⟨A,x,R,rfl,m,d,i⟩:=g (λq=>h λe a=>by
       rcases zH.1 a with rfl|a
       ·exact c
       ·exact q e a)
      have f:∀e∈y::A,p e=false:=λe a=>by
       rcases zH.1 a with rfl|a
       ·exact c
       ·exact i e a
      refine⟨y::A,x,R,rfl,?_,d,f⟩
      refine yF (by simp) (λj b=>?_) ?_
      ·rw[List.getElem_map,zZa]
       have:(y::(A++x::R))[j]'(by simp at b ⊢;omega)=(y::A)[j]:=by
        have q:((y::A)++x::R)[j]'(by simp at b ⊢;omega)=(y::A)[j]:=List.getElem_append_left b
        exact q
       rw[this]
       exact f _ (zw _)
      ·rw[List.getElem_map,zZa]
       have:(y::(A++x::R))[(y::A).length]'(by simp)=x:=by
        rw[List.getElem_of_eq (show y::(A++x::R)=(y::A)++x::R from rfl),List.getElem_append_right (zo _)]
        simp
       rw[this]
       exact d
theorem YY{n:Nat}:∀l:List Ev,qZ n (l.map evC)=true
 | []=>rfl
 | e::l=>by
   rw[List.map_cons,qZ,YY l]
   rfl
theorem YZ{p:Ev->Bool}{l:List Ev}(h:∀e∈l,p e=false):l.filter (λe=> !p e)=l:=List.filter_eq_self.2 λe a=>by simp[h e a]
theorem c73(h:List Ob)(id st:Nat)(l:List Ev)(f:FuncId)(cs:List AV)(p:Ev->Bool)(hi:h[id]? =some (ja l st))(hl:l.length<1048576)(Z:∀e∈l,∀o L,ACalls Tryz.prog f ([evV e]++cs) (h.set id o++L) λr h'=>r=bl (p e)/\h'=h.set id o++L):
  ACalls Tryz.prog 52 [.tl id st,.fn (.func f) [] cs] h λr h'=>∃l2,h'=h.set id (ja l2 st)/\(r= .tl id st∨∃n,r= .vw (.tl id st) 11 0 n)/\SlOf h' r 11 ((l.filter λe=> !p e).map evC):=by
 have hex:∃r h',(∃l2,h'=h.set id (ja l2 st)/\(r=AV.tl id st∨∃n,r= .vw (.tl id st) 11 0 n)/\SlOf h' r 11 ((l.filter λe=> !p e).map evC))/\ResK h h':=
  ⟨.tl id st,_,⟨l.filter λe=> !p e,rfl,.inl rfl,by rw[qS,zq hi,vO,if_pos rfl],λ_=>by rw[j5,zq hi,yh]⟩,qH hi rfl⟩
 have Y:SlOf h (.tl id st) 11 (l.map evC):=⟨by rw[qS,hi,vO,if_pos rfl],λ_=>by rw[j5,hi,yh]⟩
 have Q:Zk h f cs agA (l.map evC) (λr=>p (YX r)):=λrow E L=>by
  obtain⟨e,he,rfl⟩:=zx.1 E
  have:=Z e he (ja l st) L
  rw[qX hi] at this
  exact this
 refine zl Tryz.f52 [.tmp 4] 42 rfl rfl rfl rfl rfl rfl (by decide) (hex) λB=>?_
 simp only[go_sem]
 refine zi (c42 h _ f cs _ _ (by rw[zb];omega) (λr hr=>by obtain⟨e,_,rfl⟩:=zx.1 hr;rfl) Y Q) ?_
 rintro _ i ⟨rfl,e1⟩
 subst e1
 rcases Wp p l with⟨K,J⟩|⟨A,x,R,rfl,K,J,q3⟩
 ·rw[K]
  simp only[go_sem]
  exact⟨.tl id st,by simp only[go_sem],.inl ⟨l,(qX hi).symm,.inl rfl,by rw[YZ J];exact Y⟩⟩
 ·rw[K]
  have U:((A.length:Int)== -1)=false:=by simp
  simp only[ze,List.length_cons] at hl
  have w1:wr ((A.length:Int)+1)=((A.length+1:Nat):Int):=xS (by omega)
  have u:((A++[x]).filter λe=> !p e)=A:=by rw[je,YZ q3];simp[J]
  simp only[go_sem,U,w1]
  refine zO (by decide) (λn T h'=>∃(P X d:List Ev) (L:List Ob),P++d=A++x::R/\(P.filter λe=> !p e).length+X.length=P.length/\0<X.length/\h'=i.set id (ja ((P.filter λe=> !p e)++(X++d)) st)++L/\T 0= .tl id st/\T 1= .fn (.func f) [] cs/\T 5=i64 (P.filter λe=> !p e).length/\T 6=i64 P.length/\n=d.length) R.length
   ⟨A++[x],[x],R,[],by simp,by rw[u];simp,by simp,by rw[u,zU];exact(qX hi).symm,by simp only[go_sem],by simp only[go_sem],by(simp only[go_sem]<;>rw[u]),by(simp only[go_sem]<;>simp),rfl⟩ ?_
  rintro n T h' ⟨P,X,d,L,q,N,O,rfl,t0,t1,t5,t6,rfl⟩
  have H:∀M o,(i.set id o++M)[id]? =some o:=λM o=>zf (zq hi)
  have G:=congrArg List.length q
  simp only[ze,List.length_cons] at G
  simp only[go_sem,t6,t0,H,zb,ze]
  refine ways (λe=>?_) (λe=>?_)
  ·have k:=dlt e
   cases d with
   | nil=>simp at k;omega
   | cons v d=>
   simp only[List.length_cons] at k G
   obtain⟨a,j⟩:∃a,a=P.filter λe=> !p e:=⟨_,rfl⟩
   rw[<-j] at N t5 k⊢
   have hv:v∈A++x::R:=by rw[<-q];simp
   have S:(a++(X++v::d))[P.length]? =some v:=by
    rw[<-zn]
    exact Zv (by simp;omega)
   have ra:((a++(X++v::d)).map evC)[P.length]? =some (evC v):=jR S
   have la:(P.length:Int)<((a.length+(X.length+(d.length+1)):Nat):Int):=by omega
   have w2:wr ((P.length:Int)+1)=((P.length+1:Nat):Int):=xS (by omega)
   have w3:wr ((a.length:Int)+1)=((a.length+1:Nat):Int):=xS (by omega)
   obtain⟨C,s⟩:∃C,C=a++(X++v::d):=⟨_,rfl⟩
   rw[<-s] at ra⊢
   have m:C.length=a.length+(X.length+(d.length+1)):=by rw[s];simp
   have gN:∀o b,(i.set id o++(L++[b]))[i.length+L.length]? =some b:=λo b=>by
    rw[zN (by simp)]
    simp
   have sN:∀o b c,(i.set id o++(L++[b])).set (i.length+L.length) c=i.set id o++(L++[c]):=λo b c=>by
    rw[zR _ _ (by simp),zP,show i.length+L.length - i.length=L.length by omega,zR _ _ (zo _),Nat.sub_self]
    rfl
   simp only[go_sem,gN,sN,t6,t0,t1,H,ra,la,m,zb,Int.toNat_natCast,zg]
   refine zi (Z v hv _ _) ?_
   rintro _ h3 ⟨rfl,e3⟩
   subst e3
   simp only[go_sem]
   have t:(P++[v])++d=A++x::R:=by rw[<-q];simp
   refine ways (λz=>?_) (λz=>?_)
   ·have z:p v=false:=by simpa using z
    have g:((P++[v]).filter λe=> !p e)=a++[v]:=by rw[je, <-j];simp[z]
    cases X with
    | nil=>simp at O
    | cons W X=>
    have D:C=a++W::(X++v::d):=s
    have rb:(C.map evC)[a.length]? =some (evC W):=jR (by rw[D];exact Zv rfl)
    have I:∀M o y,(i.set id o++M).set id y=i.set id y++M:=λM o y=>by
     rw[jc (zq hi),qh]
    have lb:(a.length:Int)<((a.length+(X.length+1+(d.length+1)):Nat):Int):=by omega
    have F:(C.map evC).set a.length (evC v)=(a++v::(X++v::d)).map evC:=by
     rw[<-List.map_set,D,zR _ _ (zo _),Nat.sub_self]
     rfl
    have hq:(a++[v])++((X++[v])++d)=a++v::(X++v::d):=by simp
    simp only[go_sem,gN,I,rb,lb,m,zb,Int.toNat_natCast,zg,t0,t1,t5,t6,H,w2,w3,F]
    exact⟨d.length,by simp,P++[v],X++[v],d,L++[.box 75 (evC v)],t,by rw[g];simp at N ⊢;omega,by simp,by rw[g,hq],by rw[g];exact xl (by simp),xl (by simp),rfl⟩
   ·have z:p v=true:=by simpa using z
    have g:((P++[v]).filter λe=> !p e)=a:=by rw[je, <-j];simp[z]
    simp only[go_sem,t6,w2]
    exact⟨d.length,by simp,P++[v],X++[v],d,L++[.box 75 (evC v)],t,by rw[g];simp;omega,by simp,by rw[g,s];simp,t0,t1,by rw[g];exact t5,xl (by simp),rfl⟩
  ·have δ:=xc e
   have hR:d=[]:=zz (by omega)
   subst hR
   rw[zU] at q
   subst q
   obtain⟨a,j⟩:∃a,a=(A++x::R).filter λe=> !p e:=⟨_,rfl⟩
   rw[<-j] at t5 N⊢
   have f0:(0:Int)<=(a.length:Int):=by omega
   have V:(a.length:Int)<=((a.length+X.length:Nat):Int):=by omega
   have f2:a.length+X.length - a.length=X.length:=by omega
   have I:∀M o y,(i.set id o++M).set id y=i.set id y++M:=λM o y=>by
    rw[jc (zq hi),qh]
   have hz:List.take a.length ((a++X).map evC)++(List.replicate X.length ([i64 0,i64 0,i64 0,i64 0,i64 0,i64 0,i64 0,i64 0,i64 0,i64 0,i64 0]:List AV)++List.drop (a.length+X.length) ((a++X).map evC))=(a++List.replicate X.length x6a).map evC:=by
    rw[List.drop_of_length_le (by simp),zU,zy,zy,jt (by simp),List.take_of_length_le (by simp),List.map_replicate]
    rfl
   have f3:((a.length:Nat):Int)<=((a.length+X.length:Nat):Int):=V
   simp only[go_sem,t0,t5,H,I,hz,zb,ze,qY,f0,V,f2,Int.toNat_natCast,true_and,or_true,Int.le_refl,zo,Option.bind_some,qY,List.all_replicate,ite_self,Nat.sub_zero]
   have k:=(zd.1 hi).1
   refine⟨.vw (.tl id st) 11 0 a.length,by simp only[go_sem],.inr ⟨i.set id _,L,rfl,by simp,by simp[AV.lt,k],KeepLt.refl.set rfl (YY _),⟨_,rfl,.inr ⟨_,rfl⟩,?_⟩⟩⟩
   have w:=zq (b:=ja (a++List.replicate X.length x6a) st) hi
   refine⟨?_,λ_=>?_⟩
   ·rw[kH,qS,w,vO,if_pos rfl,Option.bind_some,if_pos ⟨by simp,.inr (by rw[j5,w,yh])⟩]
    simp
   ·rw[ZP,j5,w,yh]
    rfl
theorem Wca(f:FuncId)(cs:List AV):xv Tryz.prog 52 [.v (.slice none 0 0),.fn (.func f) [] cs] (.v (.slice none 0 0)):=λh=>by
 refine zl Tryz.f52 [.tmp 4] 42 rfl rfl rfl rfl rfl rfl (by decide) (⟨_,_,⟨rfl,rfl⟩,.refl⟩) λB=>?_
 simp only[go_sem]
 refine zi (c42 h _ f cs [] (λ_=>false) (by simp) (λr a=>by cases a) ⟨rfl,λh=>absurd rfl h⟩ (λr a=>by cases a)) ?_
 rintro _ c ⟨rfl,b⟩
 subst b
 have:Xv [] (λ_=>false)= -1:=rfl
 simp only[go_sem,this]
 refine zk ?_<;>(simp only[go_sem]<;>try rfl)
def XJ(s:Setup)(w:Int)(l:List Ev):List Ev:=(qj l).filter λe=> !Z6 s w e
theorem c41(h:List Ob)(s:Setup)(a:SA)(k:SIn h s a)(x:AV)(l:List Ev)(w:Int)(y:SlOf h x 11 (l.map evC))(D:l.length<1048576):
  ACalls Tryz.prog 124 [jm s a,x,i64 w] h λr h'=>∃L,h'=h++L/\NoRes L/\New h 11 r ((XJ s w l).map evC) L:=by
 have hex:∃r h',(∃L,h'=h++L/\NoRes L/\New h 11 r ((XJ s w l).map evC) L)/\ResK h h':=
  ⟨.sl 11 _,_,⟨[],rfl,xr,λ_ _=>⟨rfl,λ_=>rfl⟩⟩,q8⟩
 refine zl Tryz.f124 [.tmp 6] 11 rfl rfl rfl rfl rfl rfl (by decide) (hex) λB=>?_
 simp only[go_sem,k.w.one,k.e.one,k.c.one,k.g.one,k.r.one,k.t.one]
 refine zi (c57 _ x l (y.app _) (by omega)) ?_
 have m:=jQ l
 rintro r A (⟨rfl,rfl,rfl⟩|⟨rfl,rfl⟩)
 ·simp only[go_sem]
  refine zi (Wca _ _ _) ?_
  rintro _ z ⟨rfl,d⟩
  subst d
  simp only[go_sem]
  exact⟨.v (.slice none 0 0),by simp only[go_sem],.inl ⟨_,rfl,zp rfl (zF rfl),λ_ _=>⟨rfl,λh=>absurd rfl h⟩⟩⟩
 ·simp only[go_sem]
  have q:(h++[.box 30 (qa s a),.box 3 [i64 w],ja (qj l) 1])[h.length+2]? =some (ja (qj l) 1):=by rw[zN rfl];rfl
  refine zi (c73 _ (h.length+2) 1 (qj l) 196 _ (Z6 s w) q (by omega) λe C o L=>?_) ?_
  ·have b:(h++[.box 30 (qa s a),.box 3 [i64 w],ja (qj l) 1]).set (h.length+2) o=h++[.box 30 (qa s a),.box 3 [i64 w],o]:=by
    rw[zR _ _ (by omega),show h.length+2 - h.length=2 by omega]
    rfl
   rw[b,zn]
   refine c74 _ _ _ e w s a (k.app _) ?_ ?_
   ·rw[zN rfl];rfl
   ·rw[zM rfl];rfl
  ·rintro r z ⟨l2,rfl,u,j⟩
   have b:(h++[.box 30 (qa s a),.box 3 [i64 w],ja (qj l) 1]).set (h.length+2) (ja l2 1)=h++[.box 30 (qa s a),.box 3 [i64 w],ja l2 1]:=by
    rw[zR _ _ (by omega),show h.length+2 - h.length=2 by omega]
    rfl
   rw[b] at j⊢
   simp only[go_sem]
   refine⟨r,by simp only[go_sem],.inl ⟨_,rfl,zp rfl (zp rfl (zF rfl)),λf i=>?_⟩⟩
   have d:(f++[.box 30 (qa s a),.box 3 [i64 w],ja l2 1])[h.length+2]? =(h++[.box 30 (qa s a),.box 3 [i64 w],ja l2 1])[h.length+2]? :=by
    rw[zN i.symm,zN rfl]
   have p:zZ (f++[.box 30 (qa s a),.box 3 [i64 w],ja l2 1]) r=zZ (h++[.box 30 (qa s a),.box 3 [i64 w],ja l2 1]) r/\eOf (f++[.box 30 (qa s a),.box 3 [i64 w],ja l2 1]) r=eOf (h++[.box 30 (qa s a),.box 3 [i64 w],ja l2 1]) r:=by
    rcases u with rfl|⟨n,rfl⟩
    ·rw[qS,qS,j5,j5,d];exact⟨rfl,rfl⟩
    ·rw[kH,kH,ZP,ZP,qS,qS,j5,j5,d];exact⟨rfl,rfl⟩
   exact⟨by rw[p.1];exact j.rows,λh=>by rw[p.2];exact j.ee h⟩
def vZ(w:Int)(e:Ev):Bool:=e.kind==7 && Qi e.at_==w
def kV(l:List Ev)(w:Int):Nat:=(l.filter (vZ w)).length
theorem c45(h:List Ob)(x:AV)(l:List Ev)(w:Int)(q:SlOf h x 11 (l.map evC))(G:l.length<1048576):
  ACalls Tryz.prog 130 [x,i64 w] h λr h'=>r=i64 (kV l w)/\h'=h:=by
 have s:∀M,zZ (h++M) x=some (l.map evC):=λM=>(q.app M).rows
 refine zl Tryz.f130 [.tmp 4] 27 rfl rfl rfl rfl rfl rfl (by decide) (⟨_,_,⟨rfl,rfl⟩,.refl⟩) λB=>?_
 simp only[go_sem,q.rows,s,zb]
 refine zO (by decide) (λm T h'=>∃(k:Nat) (L:List Ob),h'=h++L/\k<=l.length/\T 1=i64 w/\T 4=i64 (kV (l.take k) w)/\T 7=x/\T 8=i64 l.length/\T 9=i64 k/\m=l.length - k) l.length
  ⟨0,[],by simp,by omega,by simp only[go_sem],by(simp only[go_sem]<;>rfl),by simp only[go_sem],by simp only[go_sem],by(simp only[go_sem]<;>rfl),rfl⟩ ?_
 rintro m T h' ⟨k,L,rfl,H,t1,t4,p,t8,t9,rfl⟩
 simp only[go_sem,t8,t9]
 refine ways (λe=>?_) (λe=>?_)
 ·have f:=dlt e
  have o:=(q.app L).at (i:=k) (by simpa using f)
  have d:(l.map evC)[k]? =some (evC l[k]):=jR (zh f)
  have j:=xw f
  obtain⟨v,u⟩:∃v,v=l[k]:=⟨_,rfl⟩
  rw[<-u] at d
  have E:(l.take k).length=k:=by simp;omega
  have C:kV (l.take k) w<=k:=by
   have:=qt (vZ w) (l.take k)
   unfold kV
   omega
  have a:kV (l.take (k+1)) w=kV (l.take k) w+(if vZ w v then 1 else 0):=by
   unfold kV
   rw[<-zD f,je,ze, <-u]
   cases h:vZ w v<;>simp[h]
  have gN:∀b,(h++(L++[b]))[h.length+L.length]? =some b:=λb=>by
   rw[zN rfl]
   simp
  have y:∀b c,(h++(L++[b])).set (h.length+L.length) c=h++(L++[c]):=λb c=>by
   rw[zR _ _ (by simp),show h.length+L.length - h.length=L.length by omega,zR _ _ (zo _),Nat.sub_self]
   rfl
  by_cases z:v.kind=7
  ·have g:(v.kind==7)=true:=by simpa using z
   simp only[go_sem,p,t9,t1,s,o,d,j,gN,y,zb,Int.toNat_natCast,zg,g,qE]
   refine zi (c17 v.at_ _) ?_
   rintro _ F ⟨rfl,D⟩
   subst D
   simp only[go_sem,t1]
   refine ways (λt=>?_) (λt=>?_)
   ·have n:vZ w v=true:=by simp only[vZ,g];exact t
    rw[n,if_pos rfl] at a
    simp only[go_sem,t4,t9]
    exact⟨l.length - (k+1),by omega,k+1,L++[.box 75 (evC v)],rfl,by omega,t1,by rw[a];exact qc (by omega) rfl,p,t8,qc (by omega) rfl,rfl⟩
   ·have n:vZ w v=false:=by simp only[vZ,g];exact t
    rw[n,if_neg (by simp)] at a
    simp only[go_sem,t9]
    exact⟨l.length - (k+1),by omega,k+1,L++[.box 75 (evC v)],rfl,by omega,t1,by rw[a];exact t4,p,t8,qc (by omega) rfl,rfl⟩
  ·have g:(v.kind==7)=false:=by simpa using z
   have n:vZ w v=false:=by simp only[vZ,g];rfl
   rw[n,if_neg (by simp)] at a
   simp only[go_sem,p,t9,s,o,d,j,gN,y,zb,Int.toNat_natCast,zg,g,qE]
   exact⟨l.length - (k+1),by omega,k+1,L++[.box 75 (evC v)],rfl,by omega,t1,by rw[a];exact t4,t8,qc (by omega) rfl,rfl⟩
 ·have A:=xc e
  have:k=l.length:=by omega
  subst this
  rw[zY] at t4
  simp only[go_sem,t4]
  refine zk ?_<;>(simp only[go_sem]<;>try rfl)
attribute [go_sem] y5a Q1a
theorem c62(n:Int):xv Tryz.prog 200 [i64 n] (rat (n,1)):=λh=>by
 refine zl Tryz.f200 [.cell 2 24] 5 rfl rfl rfl rfl rfl rfl (by decide) (⟨_,_,⟨rfl,rfl⟩,.refl⟩) λB=>?_
 simp only[go_sem]
 refine zk ?_<;>(simp only[go_sem]<;>try rfl)
theorem c61(a b:qd)(f:jf a)(e:jf b):xv Tryz.prog 199 [rat a,rat b] (Xt (wU [a,b])):=λh=>by
 refine zl Tryz.f199 [.cell 4 24,.tmp 5] 12 rfl rfl rfl rfl rfl rfl (by decide) (⟨_,_,⟨rfl,rfl⟩,.refl⟩) λB=>?_
 simp only[go_sem]
 refine zi (c23 _ _ [a,b] (λp c=>by
  rcases zH.1 c with rfl|c
  ·exact f
  ·rw[zJ.1 c];exact e) (by simp) ⟨by simp only[go_sem,List.map_cons,List.map_nil,jG],λ_=>by simp only[go_sem]⟩) ?_
 rintro _ g ⟨rfl,d⟩
 subst d
 simp only[go_sem]
 refine zk ?_<;>(simp only[go_sem]<;>try rfl)
theorem c60(h:List Ob)(j:Nat)(d:Int)(f:FuncId)(a b:qd)(v:qd × Int)(g:h[j]? =some (.box 37 [i64 d]))(p:∀L,ACalls Tryz.prog f [rat a,rat b] (h++L) λr h'=>r=Xt v/\h'=h++L):
  ACalls Tryz.prog 198 [.fn (.func f) [] [],rat a,rat b,.ptr j 0] h λr h'=>r=rat (if d=0 then v.1 else(0,0))/\h'=h.set j (.box 37 [i64 (if d=0 then v.2 else d)]):=by
 have i:∀M,(h++M)[j]? =some (.box 37 [i64 d]):=λM=>zf g
 have k:∀M o,(h++M).set j o=h.set j o++M:=λM o=>jc g
 refine zl Tryz.f198 [.cell 7 24] 22 rfl rfl rfl rfl rfl rfl (by decide) (⟨_,_,⟨rfl,rfl⟩,qH g rfl⟩) λB=>?_
 simp only[go_sem,i]
 refine ways (λe=>?_) (λe=>?_)
 ·have e:¬ d=0:=by simpa using e
  simp only[go_sem,i]
  exact⟨rat (0,0),by simp only[go_sem],.inr ⟨h,_,rfl,rfl,rfl,KeepLt.refl,by rw[if_neg e],by rw[if_neg e,qX g]⟩⟩
 ·have e:d=0:=by simpa using e
  simp only[go_sem]
  refine zi (p _) ?_
  rintro _ q ⟨rfl,l⟩
  subst l
  have gN:∀o M n,(h.set j o++M)[h.length+n]? =M[n]? :=λo M n=>zN (by simp)
  have m:∀o M n c,(h.set j o++M).set (h.length+n) c=h.set j o++M.set n c:=λo M n c=>by
   rw[zR _ _ (by simp),zP,show h.length+n - h.length=n by omega]
  simp only[go_sem,i,k,gN,m,List.set_cons_succ,List.set_cons_zero,List.getElem?_cons_succ,List.getElem?_cons_zero]
  exact⟨rat v.1,by simp only[go_sem,gN,List.getElem?_cons_succ,List.getElem?_cons_zero],.inr ⟨h.set j _,_,rfl,by simp,rfl,KeepLt.refl.set rfl rfl,by rw[if_pos e],by rw[if_pos e]⟩⟩
attribute [go_sem] Q3a y7a
def wW(p:qd)(t:Xx):Bool:= !V1 p (make t.1 100).1
def Zz(p:qd):Int->Int->List Xx->Int
 | out,_,[]=>out
 | out,i,t::l=>Zz p (if wW p t then i else out) (i+1) l
def kn(s:Setup)(p:qd):Int:=if qo s && rok p then Zz p (-1) 0 s.tiers else -1
theorem c26(h:List Ob)(s:Setup)(a:SA)(j:SIn h s a)(f:SFit s)(p:qd)(D:jf p):
  ACalls Tryz.prog 59 [jm s a,rat p] h λr h'=>r=i64 (kn s p)/\h'=h:=by
 refine zl Tryz.f59 [.tmp 4] 40 rfl rfl rfl rfl rfl rfl (by decide) (⟨_,_,⟨rfl,rfl⟩,.refl⟩) λB=>?_
 simp only[go_sem,j.w.one,j.e.one,j.c.one,j.g.one,j.r.one,j.t.one]
 refine zi (c16 _ s a (j.app _) f) ?_
 rintro _ G ⟨rfl,o⟩
 subst o
 cases u:qo s with
 | false=>
   simp only[go_sem,u,Jja,Bool.not_true,Bool.not_false]
   refine zk ?_<;>(simp only[go_sem,kn,u,Bool.false_and]<;>try rfl)
 | true=>
   simp only[go_sem,u,Jja,Bool.not_true,Bool.not_false]
   refine zi (c27 p D.1 D.2 _) ?_
   rintro _ G ⟨rfl,o⟩
   subst o
   cases x:rok p with
   | false=>
     simp only[go_sem,x,Bool.not_true,Bool.not_false]
     refine zk ?_<;>(simp only[go_sem,kn,u,x,Bool.true_and]<;>try rfl)
   | true=>
     have J:∀M,zZ (h++M) a.t=some (s.tiers.map jG):=λM=>(j.app M).t.rows
     simp only[go_sem,x,Bool.not_true,Bool.not_false,J,zb]
     have O:=f.nt
     refine zO (by decide) (λm T h'=>∃(k:Nat) (out:Int) (L:List Ob),h'=h++(.box 30 (qa s a):: .box 24 [i64 p.1,i64 p.2]::L)/\k<=s.tiers.length/\T 3= .ptr (h.length+1) 0/\T 5=i64 out/\T 20=a.t/\T 21=i64 s.tiers.length/\T 22=i64 k/\Zz p (-1) 0 s.tiers=Zz p out k (s.tiers.drop k)/\m=s.tiers.length - k) s.tiers.length
      ⟨0, -1,[],rfl,by omega,by simp only[go_sem],by(simp only[go_sem]<;>rfl),by simp only[go_sem],by simp only[go_sem],by(simp only[go_sem]<;>rfl),rfl,rfl⟩ ?_
     rintro m T h' ⟨k,out,L,v,N,t3,t5,l,n,t22,y,rfl⟩
     have H:SlOf h' a.t 2 (s.tiers.map jG):=by rw[v];exact j.t.app _
     simp only[go_sem,n,t22]
     refine ways (λe=>?_) (λe=>?_)
     ·have d:=dlt e
      have E:=H.at (i:=k) (by simpa using d)
      have q:(s.tiers.map jG)[k]? =some (jG s.tiers[k]):=by rw[zr,zh d];rfl
      have z:=xw d
      have K:∀M,(h'++M)[h.length+1]? =some (.box 24 [i64 p.1,i64 p.2]):=λM=>by rw[v];exact zf (by rw[zN rfl];rfl)
      simp only[go_sem,l,t22,E,H.rows,q,z,jG,zb,Int.toNat_natCast,zg]
      refine zi (c18 s.tiers[k].1 100 (f.tiers _ (zw d)).1 ⟨by decide,by decide⟩ _) ?_
      rintro _ G ⟨rfl,o⟩
      subst o
      simp only[go_sem,t3,K]
      refine zi (c20 p _ D (Zt _ _) _) ?_
      rintro _ G ⟨rfl,o⟩
      subst o
      simp only[go_sem]
      have b:Zz p out k (s.tiers.drop k)=Zz p (if wW p s.tiers[k] then(k:Int) else out) ((k+1:Nat):Int) (s.tiers.drop (k+1)):=by
       rw[qp d,Zz]
       rfl
      refine ways (λC=>?_) (λC=>?_)
      ·have A:wW p s.tiers[k]=true:=C
       rw[A,if_pos rfl] at b
       simp only[go_sem,t22]
       exact⟨s.tiers.length - (k+1),by omega,k+1,k,L++_,by rw[v];simp only[zn,List.cons_append];rfl,by omega,t3,rfl,l,n,qc (by omega) rfl,by rw[y,b],rfl⟩
      ·have A:wW p s.tiers[k]=false:=C
       rw[A,if_neg (by simp)] at b
       simp only[go_sem,t22]
       exact⟨s.tiers.length - (k+1),by omega,k+1,out,L++_,by rw[v];simp only[zn,List.cons_append];rfl,by omega,t3,t5,l,n,qc (by omega) rfl,by rw[y,b],rfl⟩
     ·have I:=xc e
      have F:k=s.tiers.length:=by omega
      subst F
      rw[List.drop_length,Zz] at y
      subst v
      simp only[go_sem,t5]
      refine zk ?_<;>(simp only[go_sem,kn,u,x,Bool.true_and,y]<;>try rfl)
