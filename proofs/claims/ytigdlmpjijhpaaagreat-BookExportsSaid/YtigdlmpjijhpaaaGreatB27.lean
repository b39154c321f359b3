import Derived.Test.YtigdlmpjijhpaaaGreatBA
import Derived.Test.YtigdlmpjijhpaaaGreatB20
set_option linter.all false
namespace Go.Proofs.YtigdlmpjijhpaaaGreat.Ax
open Go Go.Proofs
set_option maxRecDepth 100000
attribute [go_sem] WQa Yia
theorem Vna{b:Bool}:(b==false)= !b:=by cases b<;>rfl
theorem c40:xw Tryz.prog 123 [] (rat (0,1)):=λh=>by
 refine zj Tryz.f123 [.cell 0 24] 2 rfl rfl rfl rfl rfl rfl (by decide) (⟨_,_,⟨rfl,rfl⟩,.refl⟩) λB=>?_
 simp only[go_sem]
 refine zm ?_<;>(simp only[go_sem]<;>try rfl)
def ZF(id:Int)(e:Ev):Bool:=e.id==id && e.kind==3
theorem c43(h:List Ob)(i:Nat)(e:Ev)(g:Seg)(hi:h[i]? =some (.box 146 (kG g))):ACalls Tryz.prog 125 [evV e,.ptr i 0] h λr h'=>r=bl (ZF g.id e)/\h'=h:=by
 have b:∀M,(h++M)[i]? =some (.box 146 (kG g)):=λM=>zf hi
 cases a:e.id==g.id with
 | false=>
   refine zj Tryz.f125 [.tmp 3] 14 rfl rfl rfl rfl rfl rfl (by decide) (⟨_,_,⟨rfl,rfl⟩,.refl⟩) λB=>?_
   simp only[go_sem,b,a,qD]
   refine zm ?_<;>(simp only[go_sem,ZF,a,Bool.false_and]<;>try rfl)
 | true=>
   refine zj Tryz.f125 [.tmp 3] 14 rfl rfl rfl rfl rfl rfl (by decide) (⟨_,_,⟨rfl,rfl⟩,.refl⟩) λB=>?_
   simp only[go_sem,b,a,qD]
   refine zm ?_<;>(simp only[go_sem,ZF,a,Bool.true_and]<;>try rfl)
def QX(s:Setup)(w:Int)(e:Ev):Bool:=e.worker != w || !wi s e
theorem c74(h:List Ob)(i j:Nat)(e:Ev)(w:Int)(s:Setup)(a:SA)(k:SIn h s a)(hi:h[i]? =some (.box 3 [i64 w]))(f:h[j]? =some (.box 30 (qd s a))):ACalls Tryz.prog 196 [evV e,.ptr i 0,.ptr j 0] h λr h'=>r=bl (QX s w e)/\h'=h:=by
 have d:∀M,(h++M)[i]? =some (.box 3 [i64 w]):=λM=>zf hi
 have b:∀M,(h++M)[j]? =some (.box 30 (qd s a)):=λM=>zf f
 cases c:e.worker != w with
 | true=>
   refine zj Tryz.f196 [.tmp 4] 15 rfl rfl rfl rfl rfl rfl (by decide) (⟨_,_,⟨rfl,rfl⟩,.refl⟩) λB=>?_
   simp only[go_sem,d,b,c,Vna,Bool.not_true,Bool.not_false]
   refine zm ?_<;>(simp only[go_sem,QX,c,Bool.true_or]<;>try rfl)
 | false=>
   refine zj Tryz.f196 [.tmp 4] 15 rfl rfl rfl rfl rfl rfl (by decide) (⟨_,_,⟨rfl,rfl⟩,.refl⟩) λB=>?_
   simp only[go_sem,d,b,c,Vna,Bool.not_true,Bool.not_false]
   refine zg (c14 _ s a (k.app _) e) ?_
   rintro _ l ⟨rfl,g⟩
   subst g
   simp only[go_sem]
   refine zm ?_<;>(simp only[go_sem,QX,c,Bool.false_or]<;>try rfl)
theorem c44(h:List Ob)(j:Nat)(n d b:Int)(a:qt)(e:Int)(f:h[j]? =some (.box 210 [i64 n,i64 d,i64 b])):
  ACalls Tryz.prog 127 [.ptr j 0,rat a,i64 e] h λr h'=>r= .tup []/\h'=h.set j (.box 210 (if b=0 then [i64 a.1,i64 a.2,i64 e] else [i64 n,i64 d,i64 b])):=by
 have l:∀M,(h++M)[j]? =some (.box 210 [i64 n,i64 d,i64 b]):=λM=>zf f
 have m:∀M o,(h++M).set j o=h.set j o++M:=λM o=>jh f
 have k:∀M o,(h.set j o++M)[j]? =some o:=λM o=>zf (zq f)
 have i:∀M o g,(h.set j o++M).set j g=h.set j g++M:=λM o g=>by
  rw[jh (zq f),zU]
 refine zj Tryz.f127 [] 19 rfl rfl rfl rfl rfl rfl (by decide) (⟨_,_,⟨rfl,rfl⟩,qj f rfl⟩) λB=>?_
 simp only[go_sem,l]
 refine ways (λc=>?_) (λc=>?_)
 ·have c:b=0:=by simpa using c
  simp only[go_sem,l,m,k,i]
  exact⟨.tup [],by simp only[go_sem],.inr ⟨_,_,rfl,by simp,rfl,KeepLt.refl.set rfl rfl,rfl,by rw[if_pos c]⟩⟩
 ·have c:¬ b=0:=by simpa using c
  simp only[go_sem]
  exact⟨.tup [],by simp only[go_sem],.inr ⟨h,_,rfl,rfl,rfl,KeepLt.refl,rfl,by rw[if_neg c,qM f]⟩⟩
def avI:AV->Int
 | .v (.int _ n)=>n
 | _=>0
def Wm(r:List AV):Ev:=⟨avI (nth r 0),avI (nth r 1),avI (nth r 2),avI (nth r 3),avI (nth r 4),avI (nth r 5),avI (nth r 6),avI (nth r 7),avI (nth r 8),avI (nth r 9),avI (nth r 10)⟩
def wja:Ev:=⟨0,0,0,0,0,0,0,0,0,0,0⟩
theorem jSa(e:Ev):Wm (evC e)=e:=rfl
theorem JM(p:Ev->Bool)(l:List Ev):(JB (l.map evC) (λr=>p (Wm r))= -1/\∀e∈l,p e=false)∨∃A x R,l=A++x::R/\JB (l.map evC) (λr=>p (Wm r))=(A.length:Int)/\p x=true/\∀e∈A,p e=false:=by
 by_cases h:∀e∈l,p e=false
 ·refine .inl ⟨yj λj b=>?_,h⟩
  rw[List.getElem_map,jSa]
  exact h _ (zD _)
 ·right
  induction l with
  | nil=>exact absurd (λe a=>by cases a) h
  | cons y l i=>
    cases c:p y with
    | true=>exact⟨[],y,l,rfl,wK (rows:=(y::l).map evC) (k:=0) (by simp) (λj b=>by omega) c,c,λe a=>by cases a⟩
    | false=>
      obtain⟨A,x,R,rfl,m,d,g⟩:=i (λq=>h λe a=>by
       rcases zE.1 a with rfl|a
       ·exact c
       ·exact q e a)
      have f:∀e∈y::A,p e=false:=λe a=>by
       rcases zE.1 a with rfl|a
       ·exact c
       ·exact g e a
      refine⟨y::A,x,R,rfl,?_,d,f⟩
      refine wK (by simp) (λj b=>?_) ?_
      ·rw[List.getElem_map,jSa]
       have:(y::(A++x::R))[j]'(by simp at b ⊢;omega)=(y::A)[j]:=by
        have q:((y::A)++x::R)[j]'(by simp at b ⊢;omega)=(y::A)[j]:=List.getElem_append_left b
        exact q
       rw[this]
       exact f _ (zD _)
      ·rw[List.getElem_map,jSa]
       have:(y::(A++x::R))[(y::A).length]'(by simp)=x:=by
        rw[List.getElem_of_eq (show y::(A++x::R)=(y::A)++x::R from rfl),List.getElem_append_right (zn _)]
        simp
       rw[this]
       exact d
theorem yl{n:Nat}:∀l:List Ev,qQ n (l.map evC)=true
 | []=>rfl
 | e::l=>by
   rw[List.map_cons,qQ,yl l]
   rfl
theorem qVa{p:Ev->Bool}{l:List Ev}(h:∀e∈l,p e=false):l.filter (λe=> !p e)=l:=List.filter_eq_self.2 λe a=>by simp[h e a]
theorem c73(h:List Ob)(id st:Nat)(l:List Ev)(f:FuncId)(cs:List AV)(p:Ev->Bool)(hi:h[id]? =some (jg l st))(hl:l.length<1048576)(hp:∀e∈l,∀o L,ACalls Tryz.prog f ([evV e]++cs) (h.set id o++L) λr h'=>r=bl (p e)/\h'=h.set id o++L):
  ACalls Tryz.prog 52 [.tl id st,.fn (.func f) [] cs] h λr h'=>∃l2,h'=h.set id (jg l2 st)/\(r= .tl id st∨∃n,r= .vw (.tl id st) 11 0 n)/\SlOf h' r 11 ((l.filter λe=> !p e).map evC):=by
 have hex:∃r h',(∃l2,h'=h.set id (jg l2 st)/\(r=AV.tl id st∨∃n,r= .vw (.tl id st) 11 0 n)/\SlOf h' r 11 ((l.filter λe=> !p e).map evC))/\ResK h h':=
  ⟨.tl id st,_,⟨l.filter λe=> !p e,rfl,.inl rfl,by rw[qU,zq hi,kQ,if_pos rfl],λ_=>by rw[jI,zq hi,vT]⟩,qj hi rfl⟩
 have hx:SlOf h (.tl id st) 11 (l.map evC):=⟨by rw[qU,hi,kQ,if_pos rfl],λ_=>by rw[jI,hi,vT]⟩
 have I:Zy h f cs agA (l.map evC) (λr=>p (Wm r)):=λrow D L=>by
  obtain⟨e,he,rfl⟩:=zw.1 D
  have:=hp e he (jg l st) L
  rw[qM hi] at this
  exact this
 refine zj Tryz.f52 [.tmp 4] 42 rfl rfl rfl rfl rfl rfl (by decide) (hex) λB=>?_
 simp only[go_sem]
 refine zg (c42 h _ f cs _ _ (by rw[zb];omega) (λr hr=>by obtain⟨e,_,rfl⟩:=zw.1 hr;rfl) hx I) ?_
 rintro _ i ⟨rfl,e1⟩
 subst e1
 rcases JM p l with⟨N,O⟩|⟨A,x,R,rfl,N,O,q3⟩
 ·rw[N]
  simp only[go_sem]
  exact⟨.tl id st,by simp only[go_sem],.inl ⟨l,(qM hi).symm,.inl rfl,by rw[qVa O];exact hx⟩⟩
 ·rw[N]
  have S:((A.length:Int)== -1)=false:=by simp
  simp only[ze,List.length_cons] at hl
  have w1:wr ((A.length:Int)+1)=((A.length+1:Nat):Int):=xx (by omega)
  have z:((A++[x]).filter λe=> !p e)=A:=by rw[q8,qVa q3];simp[O]
  simp only[go_sem,S,w1]
  refine zP (by decide) (λn T h'=>∃(P X d:List Ev) (L:List Ob),P++d=A++x::R/\(P.filter λe=> !p e).length+X.length=P.length/\0<X.length/\h'=i.set id (jg ((P.filter λe=> !p e)++(X++d)) st)++L/\T 0= .tl id st/\T 1= .fn (.func f) [] cs/\T 5=i64 (P.filter λe=> !p e).length/\T 6=i64 P.length/\n=d.length) R.length
   ⟨A++[x],[x],R,[],by simp,by rw[z];simp,by simp,by rw[z,zF];exact(qM hi).symm,by simp only[go_sem],by simp only[go_sem],by(simp only[go_sem]<;>rw[z]),by(simp only[go_sem]<;>simp),rfl⟩ ?_
  rintro n T h' ⟨P,X,d,L,m,Q,U,rfl,t0,t1,t5,t6,rfl⟩
  have H:∀M o,(i.set id o++M)[id]? =some o:=λM o=>zf (zq hi)
  have E:=congrArg List.length m
  simp only[ze,List.length_cons] at E
  simp only[go_sem,t6,t0,H,zb,ze]
  refine ways (λe=>?_) (λe=>?_)
  ·have k:=dlt e
   cases d with
   | nil=>simp at k;omega
   | cons v d=>
   simp only[List.length_cons] at k E
   obtain⟨a,j⟩:∃a,a=P.filter λe=> !p e:=⟨_,rfl⟩
   rw[<-j] at Q t5 k⊢
   have hv:v∈A++x::R:=by rw[<-m];simp
   have K:(a++(X++v::d))[P.length]? =some v:=by
    rw[<-zp]
    exact Qi (by simp;omega)
   have Z:((a++(X++v::d)).map evC)[P.length]? =some (evC v):=j9 K
   have la:(P.length:Int)<((a.length+(X.length+(d.length+1)):Nat):Int):=by omega
   have W:wr ((P.length:Int)+1)=((P.length+1:Nat):Int):=xx (by omega)
   have w3:wr ((a.length:Int)+1)=((a.length+1:Nat):Int):=xx (by omega)
   obtain⟨C,s⟩:∃C,C=a++(X++v::d):=⟨_,rfl⟩
   rw[<-s] at Z⊢
   have q:C.length=a.length+(X.length+(d.length+1)):=by rw[s];simp
   have gN:∀o b,(i.set id o++(L++[b]))[i.length+L.length]? =some b:=λo b=>by
    rw[zK (by simp)]
    simp
   have sN:∀o b c,(i.set id o++(L++[b])).set (i.length+L.length) c=i.set id o++(L++[c]):=λo b c=>by
    rw[zL _ _ (by simp),zz,show i.length+L.length - i.length=L.length by omega,zL _ _ (zn _),Nat.sub_self]
    rfl
   simp only[go_sem,gN,sN,t6,t0,t1,H,Z,la,q,zb,Int.toNat_natCast,zh]
   refine zg (hp v hv _ _) ?_
   rintro _ h3 ⟨rfl,e3⟩
   subst e3
   simp only[go_sem]
   have t:(P++[v])++d=A++x::R:=by rw[<-m];simp
   refine ways (λu=>?_) (λu=>?_)
   ·have u:p v=false:=by simpa using u
    have g:((P++[v]).filter λe=> !p e)=a++[v]:=by rw[q8, <-j];simp[u]
    cases X with
    | nil=>simp at U
    | cons V X=>
    have G:C=a++V::(X++v::d):=s
    have rb:(C.map evC)[a.length]? =some (evC V):=j9 (by rw[G];exact Qi rfl)
    have J:∀M o y,(i.set id o++M).set id y=i.set id y++M:=λM o y=>by
     rw[jh (zq hi),zU]
    have lb:(a.length:Int)<((a.length+(X.length+1+(d.length+1)):Nat):Int):=by omega
    have F:(C.map evC).set a.length (evC v)=(a++v::(X++v::d)).map evC:=by
     rw[<-List.map_set,G,zL _ _ (zn _),Nat.sub_self]
     rfl
    have hq:(a++[v])++((X++[v])++d)=a++v::(X++v::d):=by simp
    simp only[go_sem,gN,J,rb,lb,q,zb,Int.toNat_natCast,zh,t0,t1,t5,t6,H,W,w3,F]
    exact⟨d.length,by simp,P++[v],X++[v],d,L++[.box 75 (evC v)],t,by rw[g];simp at Q ⊢;omega,by simp,by rw[g,hq],by rw[g];exact jV (by simp),jV (by simp),rfl⟩
   ·have u:p v=true:=by simpa using u
    have g:((P++[v]).filter λe=> !p e)=a:=by rw[q8, <-j];simp[u]
    simp only[go_sem,t6,W]
    exact⟨d.length,by simp,P++[v],X++[v],d,L++[.box 75 (evC v)],t,by rw[g];simp;omega,by simp,by rw[g,s];simp,t0,t1,by rw[g];exact t5,jV (by simp),rfl⟩
  ·have ξ:=xb e
   have hR:d=[]:=zC (by omega)
   subst hR
   rw[zF] at m
   subst m
   obtain⟨a,j⟩:∃a,a=(A++x::R).filter λe=> !p e:=⟨_,rfl⟩
   rw[<-j] at t5 Q⊢
   have f0:(0:Int)<=(a.length:Int):=by omega
   have Y:(a.length:Int)<=((a.length+X.length:Nat):Int):=by omega
   have f2:a.length+X.length - a.length=X.length:=by omega
   have J:∀M o y,(i.set id o++M).set id y=i.set id y++M:=λM o y=>by
    rw[jh (zq hi),zU]
   have hz:List.take a.length ((a++X).map evC)++(List.replicate X.length ([i64 0,i64 0,i64 0,i64 0,i64 0,i64 0,i64 0,i64 0,i64 0,i64 0,i64 0]:List AV)++List.drop (a.length+X.length) ((a++X).map evC))=(a++List.replicate X.length wja).map evC:=by
    rw[List.drop_of_length_le (by simp),zF,zy,zy,qO (by simp),List.take_of_length_le (by simp),List.map_replicate]
    rfl
   have f3:((a.length:Nat):Int)<=((a.length+X.length:Nat):Int):=Y
   simp only[go_sem,t0,t5,H,J,hz,zb,ze,qZ,f0,Y,f2,Int.toNat_natCast,true_and,or_true,Int.le_refl,zn,Option.bind_some,qZ,List.all_replicate,ite_self,Nat.sub_zero]
   have k:=(zd.1 hi).1
   refine⟨.vw (.tl id st) 11 0 a.length,by simp only[go_sem],.inr ⟨i.set id _,L,rfl,by simp,by simp[AV.lt,k],KeepLt.refl.set rfl (yl _),⟨_,rfl,.inr ⟨_,rfl⟩,?_⟩⟩⟩
   have w:=zq (b:=jg (a++List.replicate X.length wja) st) hi
   refine⟨?_,λ_=>?_⟩
   ·rw[kP,qU,w,kQ,if_pos rfl,Option.bind_some,if_pos ⟨by simp,.inr (by rw[jI,w,vT])⟩]
    simp
   ·rw[Z7,jI,w,vT]
    rfl
theorem qTb(f:FuncId)(cs:List AV):xw Tryz.prog 52 [.v (.slice none 0 0),.fn (.func f) [] cs] (.v (.slice none 0 0)):=λh=>by
 refine zj Tryz.f52 [.tmp 4] 42 rfl rfl rfl rfl rfl rfl (by decide) (⟨_,_,⟨rfl,rfl⟩,.refl⟩) λB=>?_
 simp only[go_sem]
 refine zg (c42 h _ f cs [] (λ_=>false) (by simp) (λr a=>by cases a) ⟨rfl,λh=>absurd rfl h⟩ (λr a=>by cases a)) ?_
 rintro _ c ⟨rfl,b⟩
 subst b
 have:JB [] (λ_=>false)= -1:=rfl
 simp only[go_sem,this]
 refine zm ?_<;>(simp only[go_sem]<;>try rfl)
def KW(s:Setup)(w:Int)(l:List Ev):List Ev:=(qu l).filter λe=> !QX s w e
theorem c41(h:List Ob)(s:Setup)(a:SA)(k:SIn h s a)(x:AV)(l:List Ev)(w:Int)(z:SlOf h x 11 (l.map evC))(D:l.length<1048576):
  ACalls Tryz.prog 124 [je s a,x,i64 w] h λr h'=>∃L,h'=h++L/\NoRes L/\New h 11 r ((KW s w l).map evC) L:=by
 have hex:∃r h',(∃L,h'=h++L/\NoRes L/\New h 11 r ((KW s w l).map evC) L)/\ResK h h':=
  ⟨.sl 11 _,_,⟨[],rfl,jf,λ_ _=>⟨rfl,λ_=>rfl⟩⟩,qS⟩
 refine zj Tryz.f124 [.tmp 6] 11 rfl rfl rfl rfl rfl rfl (by decide) (hex) λB=>?_
 simp only[go_sem,k.w.one,k.e.one,k.c.one,k.g.one,k.r.one,k.t.one]
 refine zg (c57 _ x l (z.app _) (by omega)) ?_
 have m:=j6 l
 rintro r C (⟨rfl,rfl,rfl⟩|⟨rfl,rfl⟩)
 ·simp only[go_sem]
  refine zg (qTb _ _ _) ?_
  rintro _ y ⟨rfl,d⟩
  subst d
  simp only[go_sem]
  exact⟨.v (.slice none 0 0),by simp only[go_sem],.inl ⟨_,rfl,zr rfl (zG rfl),λ_ _=>⟨rfl,λh=>absurd rfl h⟩⟩⟩
 ·simp only[go_sem]
  have u:(h++[.box 30 (qd s a),.box 3 [i64 w],jg (qu l) 1])[h.length+2]? =some (jg (qu l) 1):=by rw[zK rfl];rfl
  refine zg (c73 _ (h.length+2) 1 (qu l) 196 _ (QX s w) u (by omega) λe A o L=>?_) ?_
  ·have b:(h++[.box 30 (qd s a),.box 3 [i64 w],jg (qu l) 1]).set (h.length+2) o=h++[.box 30 (qd s a),.box 3 [i64 w],o]:=by
    rw[zL _ _ (by omega),show h.length+2 - h.length=2 by omega]
    rfl
   rw[b,zp]
   refine c74 _ _ _ e w s a (k.app _) ?_ ?_
   ·rw[zK rfl];rfl
   ·rw[zM rfl];rfl
  ·rintro r y ⟨l2,rfl,q,f⟩
   have b:(h++[.box 30 (qd s a),.box 3 [i64 w],jg (qu l) 1]).set (h.length+2) (jg l2 1)=h++[.box 30 (qd s a),.box 3 [i64 w],jg l2 1]:=by
    rw[zL _ _ (by omega),show h.length+2 - h.length=2 by omega]
    rfl
   rw[b] at f⊢
   simp only[go_sem]
   refine⟨r,by simp only[go_sem],.inl ⟨_,rfl,zr rfl (zr rfl (zG rfl)),λi j=>?_⟩⟩
   have d:(i++[.box 30 (qd s a),.box 3 [i64 w],jg l2 1])[h.length+2]? =(h++[.box 30 (qd s a),.box 3 [i64 w],jg l2 1])[h.length+2]? :=by
    rw[zK j.symm,zK rfl]
   have p:z6 (i++[.box 30 (qd s a),.box 3 [i64 w],jg l2 1]) r=z6 (h++[.box 30 (qd s a),.box 3 [i64 w],jg l2 1]) r/\eOf (i++[.box 30 (qd s a),.box 3 [i64 w],jg l2 1]) r=eOf (h++[.box 30 (qd s a),.box 3 [i64 w],jg l2 1]) r:=by
    rcases q with rfl|⟨n,rfl⟩
    ·rw[qU,qU,jI,jI,d];exact⟨rfl,rfl⟩
    ·rw[kP,kP,Z7,Z7,qU,qU,jI,jI,d];exact⟨rfl,rfl⟩
   exact⟨by rw[p.1];exact f.rows,λh=>by rw[p.2];exact f.ee h⟩
def wN(w:Int)(e:Ev):Bool:=e.kind==7 && yJ e.at_==w
def vE(l:List Ev)(w:Int):Nat:=(l.filter (wN w)).length
theorem c45(h:List Ob)(x:AV)(l:List Ev)(w:Int)(t:SlOf h x 11 (l.map evC))(H:l.length<1048576):
  ACalls Tryz.prog 130 [x,i64 w] h λr h'=>r=i64 (vE l w)/\h'=h:=by
 have s:∀M,z6 (h++M) x=some (l.map evC):=λM=>(t.app M).rows
 refine zj Tryz.f130 [.tmp 4] 27 rfl rfl rfl rfl rfl rfl (by decide) (⟨_,_,⟨rfl,rfl⟩,.refl⟩) λB=>?_
 simp only[go_sem,t.rows,s,zb]
 refine zP (by decide) (λm T h'=>∃(k:Nat) (L:List Ob),h'=h++L/\k<=l.length/\T 1=i64 w/\T 4=i64 (vE (l.take k) w)/\T 7=x/\T 8=i64 l.length/\T 9=i64 k/\m=l.length - k) l.length
  ⟨0,[],by simp,by omega,by simp only[go_sem],by(simp only[go_sem]<;>rfl),by simp only[go_sem],by simp only[go_sem],by(simp only[go_sem]<;>rfl),rfl⟩ ?_
 rintro m T h' ⟨k,L,rfl,G,t1,t4,p,t8,t9,rfl⟩
 simp only[go_sem,t8,t9]
 refine ways (λe=>?_) (λe=>?_)
 ·have f:=dlt e
  have n:=(t.app L).at (i:=k) (by simpa using f)
  have d:(l.map evC)[k]? =some (evC l[k]):=j9 (zi f)
  have j:=xR f
  obtain⟨v,u⟩:∃v,v=l[k]:=⟨_,rfl⟩
  rw[<-u] at d
  have F:(l.take k).length=k:=by simp;omega
  have D:vE (l.take k) w<=k:=by
   have:=qo (wN w) (l.take k)
   unfold vE
   omega
  have a:vE (l.take (k+1)) w=vE (l.take k) w+(if wN w v then 1 else 0):=by
   unfold vE
   rw[<-zI f,q8,ze, <-u]
   cases h:wN w v<;>simp[h]
  have gN:∀b,(h++(L++[b]))[h.length+L.length]? =some b:=λb=>by
   rw[zK rfl]
   simp
  have y:∀b c,(h++(L++[b])).set (h.length+L.length) c=h++(L++[c]):=λb c=>by
   rw[zL _ _ (by simp),show h.length+L.length - h.length=L.length by omega,zL _ _ (zn _),Nat.sub_self]
   rfl
  by_cases z:v.kind=7
  ·have g:(v.kind==7)=true:=by simpa using z
   simp only[go_sem,p,t9,t1,s,n,d,j,gN,y,zb,Int.toNat_natCast,zh,g,qD]
   refine zg (c17 v.at_ _) ?_
   rintro _ E ⟨rfl,A⟩
   subst A
   simp only[go_sem,t1]
   refine ways (λq=>?_) (λq=>?_)
   ·have o:wN w v=true:=by simp only[wN,g];exact q
    rw[o,if_pos rfl] at a
    simp only[go_sem,t4,t9]
    exact⟨l.length - (k+1),by omega,k+1,L++[.box 75 (evC v)],rfl,by omega,t1,by rw[a];exact qm (by omega) rfl,p,t8,qm (by omega) rfl,rfl⟩
   ·have o:wN w v=false:=by simp only[wN,g];exact q
    rw[o,if_neg (by simp)] at a
    simp only[go_sem,t9]
    exact⟨l.length - (k+1),by omega,k+1,L++[.box 75 (evC v)],rfl,by omega,t1,by rw[a];exact t4,p,t8,qm (by omega) rfl,rfl⟩
  ·have g:(v.kind==7)=false:=by simpa using z
   have o:wN w v=false:=by simp only[wN,g];rfl
   rw[o,if_neg (by simp)] at a
   simp only[go_sem,p,t9,s,n,d,j,gN,y,zb,Int.toNat_natCast,zh,g,qD]
   exact⟨l.length - (k+1),by omega,k+1,L++[.box 75 (evC v)],rfl,by omega,t1,by rw[a];exact t4,t8,qm (by omega) rfl,rfl⟩
 ·have C:=xb e
  have:k=l.length:=by omega
  subst this
  rw[zZ] at t4
  simp only[go_sem,t4]
  refine zm ?_<;>(simp only[go_sem]<;>try rfl)
attribute [go_sem] Q2a KHa
theorem c62(n:Int):xw Tryz.prog 200 [i64 n] (rat (n,1)):=λh=>by
 refine zj Tryz.f200 [.cell 2 24] 5 rfl rfl rfl rfl rfl rfl (by decide) (⟨_,_,⟨rfl,rfl⟩,.refl⟩) λB=>?_
 simp only[go_sem]
 refine zm ?_<;>(simp only[go_sem]<;>try rfl)
theorem c61(a b:qt)(f:jo a)(e:jo b):xw Tryz.prog 199 [rat a,rat b] (KD (yS [a,b])):=λh=>by
 refine zj Tryz.f199 [.cell 4 24,.tmp 5] 12 rfl rfl rfl rfl rfl rfl (by decide) (⟨_,_,⟨rfl,rfl⟩,.refl⟩) λB=>?_
 simp only[go_sem]
 refine zg (c23 _ _ [a,b] (λp c=>by
  rcases zE.1 c with rfl|c
  ·exact f
  ·rw[zN.1 c];exact e) (by simp) ⟨by simp only[go_sem,List.map_cons,List.map_nil,jP],λ_=>by simp only[go_sem]⟩) ?_
 rintro _ g ⟨rfl,d⟩
 subst d
 simp only[go_sem]
 refine zm ?_<;>(simp only[go_sem]<;>try rfl)
theorem c60(h:List Ob)(j:Nat)(d:Int)(f:FuncId)(a b:qt)(v:qt × Int)(g:h[j]? =some (.box 37 [i64 d]))(k:∀L,ACalls Tryz.prog f [rat a,rat b] (h++L) λr h'=>r=KD v/\h'=h++L):
  ACalls Tryz.prog 198 [.fn (.func f) [] [],rat a,rat b,.ptr j 0] h λr h'=>r=rat (if d=0 then v.1 else(0,0))/\h'=h.set j (.box 37 [i64 (if d=0 then v.2 else d)]):=by
 have i:∀M,(h++M)[j]? =some (.box 37 [i64 d]):=λM=>zf g
 have p:∀M o,(h++M).set j o=h.set j o++M:=λM o=>jh g
 refine zj Tryz.f198 [.cell 7 24] 22 rfl rfl rfl rfl rfl rfl (by decide) (⟨_,_,⟨rfl,rfl⟩,qj g rfl⟩) λB=>?_
 simp only[go_sem,i]
 refine ways (λe=>?_) (λe=>?_)
 ·have e:¬ d=0:=by simpa using e
  simp only[go_sem,i]
  exact⟨rat (0,0),by simp only[go_sem],.inr ⟨h,_,rfl,rfl,rfl,KeepLt.refl,by rw[if_neg e],by rw[if_neg e,qM g]⟩⟩
 ·have e:d=0:=by simpa using e
  simp only[go_sem]
  refine zg (k _) ?_
  rintro _ q ⟨rfl,l⟩
  subst l
  have gN:∀o M n,(h.set j o++M)[h.length+n]? =M[n]? :=λo M n=>zK (by simp)
  have m:∀o M n c,(h.set j o++M).set (h.length+n) c=h.set j o++M.set n c:=λo M n c=>by
   rw[zL _ _ (by simp),zz,show h.length+n - h.length=n by omega]
  simp only[go_sem,i,p,gN,m,List.set_cons_succ,List.set_cons_zero,List.getElem?_cons_succ,List.getElem?_cons_zero]
  exact⟨rat v.1,by simp only[go_sem,gN,List.getElem?_cons_succ,List.getElem?_cons_zero],.inr ⟨h.set j _,_,rfl,by simp,rfl,KeepLt.refl.set rfl rfl,by rw[if_pos e],by rw[if_pos e]⟩⟩
attribute [go_sem] KJa Q4a
def yU(p:qt)(t:KG):Bool:= !YA p (make t.1 100).1
def Qo(p:qt):Int->Int->List KG->Int
 | out,_,[]=>out
 | out,i,t::l=>Qo p (if yU p t then i else out) (i+1) l
def kV(s:Setup)(p:qt):Int:=if qv s && rok p then Qo p (-1) 0 s.tiers else -1
theorem c26(h:List Ob)(s:Setup)(a:SA)(j:SIn h s a)(f:SFit s)(p:qt)(E:jo p):
  ACalls Tryz.prog 59 [je s a,rat p] h λr h'=>r=i64 (kV s p)/\h'=h:=by
 refine zj Tryz.f59 [.tmp 4] 40 rfl rfl rfl rfl rfl rfl (by decide) (⟨_,_,⟨rfl,rfl⟩,.refl⟩) λB=>?_
 simp only[go_sem,j.w.one,j.e.one,j.c.one,j.g.one,j.r.one,j.t.one]
 refine zg (c16 _ s a (j.app _) f) ?_
 rintro _ A ⟨rfl,l⟩
 subst l
 cases v:qv s with
 | false=>
   simp only[go_sem,v,Vna,Bool.not_true,Bool.not_false]
   refine zm ?_<;>(simp only[go_sem,kV,v,Bool.false_and]<;>try rfl)
 | true=>
   simp only[go_sem,v,Vna,Bool.not_true,Bool.not_false]
   refine zg (c27 p E.1 E.2 _) ?_
   rintro _ A ⟨rfl,l⟩
   subst l
   cases x:rok p with
   | false=>
     simp only[go_sem,x,Bool.not_true,Bool.not_false]
     refine zm ?_<;>(simp only[go_sem,kV,v,x,Bool.true_and]<;>try rfl)
   | true=>
     have I:∀M,z6 (h++M) a.t=some (s.tiers.map jP):=λM=>(j.app M).t.rows
     simp only[go_sem,x,Bool.not_true,Bool.not_false,I,zb]
     have N:=f.nt
     refine zP (by decide) (λm T h'=>∃(k:Nat) (out:Int) (L:List Ob),h'=h++(.box 30 (qd s a):: .box 24 [i64 p.1,i64 p.2]::L)/\k<=s.tiers.length/\T 3= .ptr (h.length+1) 0/\T 5=i64 out/\T 20=a.t/\T 21=i64 s.tiers.length/\T 22=i64 k/\Qo p (-1) 0 s.tiers=Qo p out k (s.tiers.drop k)/\m=s.tiers.length - k) s.tiers.length
      ⟨0, -1,[],rfl,by omega,by simp only[go_sem],by(simp only[go_sem]<;>rfl),by simp only[go_sem],by simp only[go_sem],by(simp only[go_sem]<;>rfl),rfl,rfl⟩ ?_
     rintro m T h' ⟨k,out,L,u,O,t3,t5,o,n,t22,y,rfl⟩
     have H:SlOf h' a.t 2 (s.tiers.map jP):=by rw[u];exact j.t.app _
     simp only[go_sem,n,t22]
     refine ways (λe=>?_) (λe=>?_)
     ·have d:=dlt e
      have D:=H.at (i:=k) (by simpa using d)
      have q:(s.tiers.map jP)[k]? =some (jP s.tiers[k]):=by rw[zx,zi d];rfl
      have C:=xR d
      have K:∀M,(h'++M)[h.length+1]? =some (.box 24 [i64 p.1,i64 p.2]):=λM=>by rw[u];exact zf (by rw[zK rfl];rfl)
      simp only[go_sem,o,t22,D,H.rows,q,C,jP,zb,Int.toNat_natCast,zh]
      refine zg (c18 s.tiers[k].1 100 (f.tiers _ (zD d)).1 ⟨by decide,by decide⟩ _) ?_
      rintro _ A ⟨rfl,l⟩
      subst l
      simp only[go_sem,t3,K]
      refine zg (c20 p _ E (Qg _ _) _) ?_
      rintro _ A ⟨rfl,l⟩
      subst l
      simp only[go_sem]
      have b:Qo p out k (s.tiers.drop k)=Qo p (if yU p s.tiers[k] then(k:Int) else out) ((k+1:Nat):Int) (s.tiers.drop (k+1)):=by
       rw[qI d,Qo]
       rfl
      refine ways (λz=>?_) (λz=>?_)
      ·have G:yU p s.tiers[k]=true:=z
       rw[G,if_pos rfl] at b
       simp only[go_sem,t22]
       exact⟨s.tiers.length - (k+1),by omega,k+1,k,L++_,by rw[u];simp only[zp,List.cons_append];rfl,by omega,t3,rfl,o,n,qm (by omega) rfl,by rw[y,b],rfl⟩
      ·have G:yU p s.tiers[k]=false:=z
       rw[G,if_neg (by simp)] at b
       simp only[go_sem,t22]
       exact⟨s.tiers.length - (k+1),by omega,k+1,out,L++_,by rw[u];simp only[zp,List.cons_append];rfl,by omega,t3,t5,o,n,qm (by omega) rfl,by rw[y,b],rfl⟩
     ·have J:=xb e
      have F:k=s.tiers.length:=by omega
      subst F
      rw[List.drop_length,Qo] at y
      subst u
      simp only[go_sem,t5]
      refine zm ?_<;>(simp only[go_sem,kV,v,x,Bool.true_and,y]<;>try rfl)
