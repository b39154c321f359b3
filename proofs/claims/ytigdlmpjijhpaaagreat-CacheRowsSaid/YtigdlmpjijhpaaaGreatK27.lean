import Derived.Test.YtigdlmpjijhpaaaGreatKA
import Derived.Test.YtigdlmpjijhpaaaGreatK20
set_option linter.all false
namespace Go.Proofs.YtigdlmpjijhpaaaGreat.Ax
open Go Go.Proofs
set_option maxRecDepth 100000
attribute [go_sem] Yga YLa
theorem VPa{b:Bool}:(b==false)= !b:=by cases b<;>rfl
theorem c40:xy Tryz.prog 123 [] (rat (0,1)):=λh=>by
 refine zj Tryz.f123 [.cell 0 24] 2 rfl rfl rfl rfl rfl rfl (by decide) (⟨_,_,⟨rfl,rfl⟩,.refl⟩) λB=>?_
 simp only[go_sem]
 refine zn ?_<;>(simp only[go_sem]<;>try rfl)
def Za(id:Int)(e:Ev):Bool:=e.id==id && e.kind==3
theorem c43(h:List Ob)(i:Nat)(e:Ev)(g:Seg)(hi:h[i]? =some (.box 146 (ve g))):ACalls Tryz.prog 125 [evV e,.ptr i 0] h λr h'=>r=bl (Za g.id e)/\h'=h:=by
 have b:∀M,(h++M)[i]? =some (.box 146 (ve g)):=λM=>ze hi
 cases a:e.id==g.id with
 | false=>
   refine zj Tryz.f125 [.tmp 3] 14 rfl rfl rfl rfl rfl rfl (by decide) (⟨_,_,⟨rfl,rfl⟩,.refl⟩) λB=>?_
   simp only[go_sem,b,a,qv]
   refine zn ?_<;>(simp only[go_sem,Za,a,Bool.false_and]<;>try rfl)
 | true=>
   refine zj Tryz.f125 [.tmp 3] 14 rfl rfl rfl rfl rfl rfl (by decide) (⟨_,_,⟨rfl,rfl⟩,.refl⟩) λB=>?_
   simp only[go_sem,b,a,qv]
   refine zn ?_<;>(simp only[go_sem,Za,a,Bool.true_and]<;>try rfl)
def Ql(s:Setup)(w:Int)(e:Ev):Bool:=e.worker != w || !vI s e
theorem c74(h:List Ob)(i j:Nat)(e:Ev)(w:Int)(s:Setup)(a:SA)(k:SIn h s a)(hi:h[i]? =some (.box 3 [i64 w]))(f:h[j]? =some (.box 30 (qg s a))):ACalls Tryz.prog 196 [evV e,.ptr i 0,.ptr j 0] h λr h'=>r=bl (Ql s w e)/\h'=h:=by
 have d:∀M,(h++M)[i]? =some (.box 3 [i64 w]):=λM=>ze hi
 have b:∀M,(h++M)[j]? =some (.box 30 (qg s a)):=λM=>ze f
 cases c:e.worker != w with
 | true=>
   refine zj Tryz.f196 [.tmp 4] 15 rfl rfl rfl rfl rfl rfl (by decide) (⟨_,_,⟨rfl,rfl⟩,.refl⟩) λB=>?_
   simp only[go_sem,d,b,c,VPa,Bool.not_true,Bool.not_false]
   refine zn ?_<;>(simp only[go_sem,Ql,c,Bool.true_or]<;>try rfl)
 | false=>
   refine zj Tryz.f196 [.tmp 4] 15 rfl rfl rfl rfl rfl rfl (by decide) (⟨_,_,⟨rfl,rfl⟩,.refl⟩) λB=>?_
   simp only[go_sem,d,b,c,VPa,Bool.not_true,Bool.not_false]
   refine zh (c14 _ s a (k.app _) e) ?_
   rintro _ l ⟨rfl,g⟩
   subst g
   simp only[go_sem]
   refine zn ?_<;>(simp only[go_sem,Ql,c,Bool.false_or]<;>try rfl)
theorem c44(h:List Ob)(j:Nat)(n d b:Int)(a:qw)(e:Int)(f:h[j]? =some (.box 210 [i64 n,i64 d,i64 b])):
  ACalls Tryz.prog 127 [.ptr j 0,rat a,i64 e] h λr h'=>r= .tup []/\h'=h.set j (.box 210 (if b=0 then [i64 a.1,i64 a.2,i64 e] else [i64 n,i64 d,i64 b])):=by
 have l:∀M,(h++M)[j]? =some (.box 210 [i64 n,i64 d,i64 b]):=λM=>ze f
 have m:∀M o,(h++M).set j o=h.set j o++M:=λM o=>jj f
 have g:∀M o,(h.set j o++M)[j]? =some o:=λM o=>ze (zm f)
 have i:∀M o k,(h.set j o++M).set j k=h.set j k++M:=λM o k=>by
  rw[jj (zm f),qd]
 refine zj Tryz.f127 [] 19 rfl rfl rfl rfl rfl rfl (by decide) (⟨_,_,⟨rfl,rfl⟩,qj f rfl⟩) λB=>?_
 simp only[go_sem,l]
 refine ways (λc=>?_) (λc=>?_)
 ·have c:b=0:=by simpa using c
  simp only[go_sem,l,m,g,i]
  exact⟨.tup [],by simp only[go_sem],.inr ⟨_,_,rfl,by simp,rfl,KeepLt.refl.set rfl rfl,rfl,by rw[if_pos c]⟩⟩
 ·have c:¬ b=0:=by simpa using c
  simp only[go_sem]
  exact⟨.tup [],by simp only[go_sem],.inr ⟨h,_,rfl,rfl,rfl,KeepLt.refl,rfl,by rw[if_neg c,qS f]⟩⟩
def avI:AV->Int
 | .v (.int _ n)=>n
 | _=>0
def Wy(r:List AV):Ev:=⟨avI (nth r 0),avI (nth r 1),avI (nth r 2),avI (nth r 3),avI (nth r 4),avI (nth r 5),avI (nth r 6),avI (nth r 7),avI (nth r 8),avI (nth r 9),avI (nth r 10)⟩
def wna:Ev:=⟨0,0,0,0,0,0,0,0,0,0,0⟩
theorem jZa(e:Ev):Wy (evC e)=e:=rfl
theorem J9(p:Ev->Bool)(l:List Ev):(JV (l.map evC) (λr=>p (Wy r))= -1/\∀e∈l,p e=false)∨∃A x R,l=A++x::R/\JV (l.map evC) (λr=>p (Wy r))=(A.length:Int)/\p x=true/\∀e∈A,p e=false:=by
 by_cases h:∀e∈l,p e=false
 ·refine .inl ⟨yz λj b=>?_,h⟩
  rw[List.getElem_map,jZa]
  exact h _ (zx _)
 ·right
  induction l with
  | nil=>exact absurd (λe a=>by cases a) h
  | cons y l g=>
    cases c:p y with
    | true=>exact⟨[],y,l,rfl,wX (rows:=(y::l).map evC) (k:=0) (by simp) (λj b=>by omega) c,c,λe a=>by cases a⟩
    | false=>
      obtain⟨A,x,R,rfl,m,d,i⟩:=g (λq=>h λe a=>by
       rcases zy.1 a with rfl|a
       ·exact c
       ·exact q e a)
      have f:∀e∈y::A,p e=false:=λe a=>by
       rcases zy.1 a with rfl|a
       ·exact c
       ·exact i e a
      refine⟨y::A,x,R,rfl,?_,d,f⟩
      refine wX (by simp) (λj b=>?_) ?_
      ·rw[List.getElem_map,jZa]
       have:(y::(A++x::R))[j]'(by simp at b ⊢;omega)=(y::A)[j]:=by
        have q:((y::A)++x::R)[j]'(by simp at b ⊢;omega)=(y::A)[j]:=List.getElem_append_left b
        exact q
       rw[this]
       exact f _ (zx _)
      ·rw[List.getElem_map,jZa]
       have:(y::(A++x::R))[(y::A).length]'(by simp)=x:=by
        rw[List.getElem_of_eq (show y::(A++x::R)=(y::A)++x::R from rfl),List.getElem_append_right (zp _)]
        simp
       rw[this]
       exact d
theorem wj{n:Nat}:∀l:List Ev,qO n (l.map evC)=true
 | []=>rfl
 | e::l=>by
   rw[List.map_cons,qO,wj l]
   rfl
theorem qWa{p:Ev->Bool}{l:List Ev}(h:∀e∈l,p e=false):l.filter (λe=> !p e)=l:=List.filter_eq_self.2 λe a=>by simp[h e a]
theorem c73(h:List Ob)(id st:Nat)(l:List Ev)(f:FuncId)(cs:List AV)(p:Ev->Bool)(hi:h[id]? =some (jh l st))(hl:l.length<1048576)(U:∀e∈l,∀o L,ACalls Tryz.prog f ([evV e]++cs) (h.set id o++L) λr h'=>r=bl (p e)/\h'=h.set id o++L):
  ACalls Tryz.prog 52 [.tl id st,.fn (.func f) [] cs] h λr h'=>∃l2,h'=h.set id (jh l2 st)/\(r= .tl id st∨∃n,r= .vw (.tl id st) 11 0 n)/\SlOf h' r 11 ((l.filter λe=> !p e).map evC):=by
 have hex:∃r h',(∃l2,h'=h.set id (jh l2 st)/\(r=AV.tl id st∨∃n,r= .vw (.tl id st) 11 0 n)/\SlOf h' r 11 ((l.filter λe=> !p e).map evC))/\ResK h h':=
  ⟨.tl id st,_,⟨l.filter λe=> !p e,rfl,.inl rfl,by rw[q8,zm hi,kV,if_pos rfl],λ_=>by rw[jO,zm hi,wg]⟩,qj hi rfl⟩
 have W:SlOf h (.tl id st) 11 (l.map evC):=⟨by rw[q8,hi,kV,if_pos rfl],λ_=>by rw[jO,hi,wg]⟩
 have J:ZD h f cs agA (l.map evC) (λr=>p (Wy r)):=λrow F L=>by
  obtain⟨e,he,rfl⟩:=zt.1 F
  have:=U e he (jh l st) L
  rw[qS hi] at this
  exact this
 refine zj Tryz.f52 [.tmp 4] 42 rfl rfl rfl rfl rfl rfl (by decide) (hex) λB=>?_
 simp only[go_sem]
 refine zh (c42 h _ f cs _ _ (by rw[zb];omega) (λr hr=>by obtain⟨e,_,rfl⟩:=zt.1 hr;rfl) W J) ?_
 rintro _ i ⟨rfl,e1⟩
 subst e1
 rcases J9 p l with⟨S,Q⟩|⟨A,x,R,rfl,S,Q,q3⟩
 ·rw[S]
  simp only[go_sem]
  exact⟨.tl id st,by simp only[go_sem],.inl ⟨l,(qS hi).symm,.inl rfl,by rw[qWa Q];exact W⟩⟩
 ·rw[S]
  have H:((A.length:Int)== -1)=false:=by simp
  simp only[zg,List.length_cons] at hl
  have w1:wr ((A.length:Int)+1)=((A.length+1:Nat):Int):=xE (by omega)
  have z:((A++[x]).filter λe=> !p e)=A:=by rw[qo,qWa q3];simp[Q]
  simp only[go_sem,H,w1]
  refine zO (by decide) (λn T h'=>∃(P X d:List Ev) (L:List Ob),P++d=A++x::R/\(P.filter λe=> !p e).length+X.length=P.length/\0<X.length/\h'=i.set id (jh ((P.filter λe=> !p e)++(X++d)) st)++L/\T 0= .tl id st/\T 1= .fn (.func f) [] cs/\T 5=i64 (P.filter λe=> !p e).length/\T 6=i64 P.length/\n=d.length) R.length
   ⟨A++[x],[x],R,[],by simp,by rw[z];simp,by simp,by rw[z,zM];exact(qS hi).symm,by simp only[go_sem],by simp only[go_sem],by(simp only[go_sem]<;>rw[z]),by(simp only[go_sem]<;>simp),rfl⟩ ?_
  rintro n T h' ⟨P,X,d,L,m,N,I,rfl,t0,t1,t5,t6,rfl⟩
  have G:∀M o,(i.set id o++M)[id]? =some o:=λM o=>ze (zm hi)
  have C:=congrArg List.length m
  simp only[zg,List.length_cons] at C
  simp only[go_sem,t6,t0,G,zb,zg]
  refine ways (λe=>?_) (λe=>?_)
  ·have k:=dlt e
   cases d with
   | nil=>simp at k;omega
   | cons v d=>
   simp only[List.length_cons] at k C
   obtain⟨a,j⟩:∃a,a=P.filter λe=> !p e:=⟨_,rfl⟩
   rw[<-j] at N t5 k⊢
   have hv:v∈A++x::R:=by rw[<-m];simp
   have K:(a++(X++v::d))[P.length]? =some v:=by
    rw[<-zr]
    exact Qy (by simp;omega)
   have ra:((a++(X++v::d)).map evC)[P.length]? =some (evC v):=xn K
   have la:(P.length:Int)<((a.length+(X.length+(d.length+1)):Nat):Int):=by omega
   have Y:wr ((P.length:Int)+1)=((P.length+1:Nat):Int):=xE (by omega)
   have w3:wr ((a.length:Int)+1)=((a.length+1:Nat):Int):=xE (by omega)
   obtain⟨l3,s⟩:∃l3,l3=a++(X++v::d):=⟨_,rfl⟩
   rw[<-s] at ra⊢
   have q:l3.length=a.length+(X.length+(d.length+1)):=by rw[s];simp
   have gN:∀o b,(i.set id o++(L++[b]))[i.length+L.length]? =some b:=λo b=>by
    rw[zG (by simp)]
    simp
   have sN:∀o b c,(i.set id o++(L++[b])).set (i.length+L.length) c=i.set id o++(L++[c]):=λo b c=>by
    rw[zT _ _ (by simp),zJ,show i.length+L.length - i.length=L.length by omega,zT _ _ (zp _),Nat.sub_self]
    rfl
   simp only[go_sem,gN,sN,t6,t0,t1,G,ra,la,q,zb,Int.toNat_natCast,zf]
   refine zh (U v hv _ _) ?_
   rintro _ h3 ⟨rfl,e3⟩
   subst e3
   simp only[go_sem]
   have t:(P++[v])++d=A++x::R:=by rw[<-m];simp
   refine ways (λu=>?_) (λu=>?_)
   ·have u:p v=false:=by simpa using u
    have g:((P++[v]).filter λe=> !p e)=a++[v]:=by rw[qo, <-j];simp[u]
    cases X with
    | nil=>simp at I
    | cons V X=>
    have D:l3=a++V::(X++v::d):=s
    have rb:(l3.map evC)[a.length]? =some (evC V):=xn (by rw[D];exact Qy rfl)
    have O:∀M o y,(i.set id o++M).set id y=i.set id y++M:=λM o y=>by
     rw[jj (zm hi),qd]
    have lb:(a.length:Int)<((a.length+(X.length+1+(d.length+1)):Nat):Int):=by omega
    have E:(l3.map evC).set a.length (evC v)=(a++v::(X++v::d)).map evC:=by
     rw[<-List.map_set,D,zT _ _ (zp _),Nat.sub_self]
     rfl
    have hq:(a++[v])++((X++[v])++d)=a++v::(X++v::d):=by simp
    simp only[go_sem,gN,O,rb,lb,q,zb,Int.toNat_natCast,zf,t0,t1,t5,t6,G,Y,w3,E]
    exact⟨d.length,by simp,P++[v],X++[v],d,L++[.box 75 (evC v)],t,by rw[g];simp at N ⊢;omega,by simp,by rw[g,hq],by rw[g];exact jZ (by simp),jZ (by simp),rfl⟩
   ·have u:p v=true:=by simpa using u
    have g:((P++[v]).filter λe=> !p e)=a:=by rw[qo, <-j];simp[u]
    simp only[go_sem,t6,Y]
    exact⟨d.length,by simp,P++[v],X++[v],d,L++[.box 75 (evC v)],t,by rw[g];simp;omega,by simp,by rw[g,s];simp,t0,t1,by rw[g];exact t5,jZ (by simp),rfl⟩
  ·have ν:=xr e
   have hR:d=[]:=zF (by omega)
   subst hR
   rw[zM] at m
   subst m
   obtain⟨a,j⟩:∃a,a=(A++x::R).filter λe=> !p e:=⟨_,rfl⟩
   rw[<-j] at t5 N⊢
   have f0:(0:Int)<=(a.length:Int):=by omega
   have Z:(a.length:Int)<=((a.length+X.length:Nat):Int):=by omega
   have f2:a.length+X.length - a.length=X.length:=by omega
   have O:∀M o y,(i.set id o++M).set id y=i.set id y++M:=λM o y=>by
    rw[jj (zm hi),qd]
   have hz:List.take a.length ((a++X).map evC)++(List.replicate X.length ([i64 0,i64 0,i64 0,i64 0,i64 0,i64 0,i64 0,i64 0,i64 0,i64 0,i64 0]:List AV)++List.drop (a.length+X.length) ((a++X).map evC))=(a++List.replicate X.length wna).map evC:=by
    rw[List.drop_of_length_le (by simp),zM,zw,zw,qE (by simp),List.take_of_length_le (by simp),List.map_replicate]
    rfl
   have f3:((a.length:Nat):Int)<=((a.length+X.length:Nat):Int):=Z
   simp only[go_sem,t0,t5,G,O,hz,zb,zg,ja,f0,Z,f2,Int.toNat_natCast,true_and,or_true,Int.le_refl,zp,Option.bind_some,ja,List.all_replicate,ite_self,Nat.sub_zero]
   have k:=(zd.1 hi).1
   refine⟨.vw (.tl id st) 11 0 a.length,by simp only[go_sem],.inr ⟨i.set id _,L,rfl,by simp,by simp[AV.lt,k],KeepLt.refl.set rfl (wj _),⟨_,rfl,.inr ⟨_,rfl⟩,?_⟩⟩⟩
   have w:=zm (b:=jh (a++List.replicate X.length wna) st) hi
   refine⟨?_,λ_=>?_⟩
   ·rw[vC,q8,w,kV,if_pos rfl,Option.bind_some,if_pos ⟨by simp,.inr (by rw[jO,w,wg])⟩]
    simp
   ·rw[Q1,jO,w,wg]
    rfl
theorem jlb(f:FuncId)(cs:List AV):xy Tryz.prog 52 [.v (.slice none 0 0),.fn (.func f) [] cs] (.v (.slice none 0 0)):=λh=>by
 refine zj Tryz.f52 [.tmp 4] 42 rfl rfl rfl rfl rfl rfl (by decide) (⟨_,_,⟨rfl,rfl⟩,.refl⟩) λB=>?_
 simp only[go_sem]
 refine zh (c42 h _ f cs [] (λ_=>false) (by simp) (λr a=>by cases a) ⟨rfl,λh=>absurd rfl h⟩ (λr a=>by cases a)) ?_
 rintro _ c ⟨rfl,b⟩
 subst b
 have:JV [] (λ_=>false)= -1:=rfl
 simp only[go_sem,this]
 refine zn ?_<;>(simp only[go_sem]<;>try rfl)
def XP(s:Setup)(w:Int)(l:List Ev):List Ev:=(qu l).filter λe=> !Ql s w e
theorem c41(h:List Ob)(s:Setup)(a:SA)(k:SIn h s a)(x:AV)(l:List Ev)(w:Int)(q:SlOf h x 11 (l.map evC))(D:l.length<1048576):
  ACalls Tryz.prog 124 [jg s a,x,i64 w] h λr h'=>∃L,h'=h++L/\NoRes L/\New h 11 r ((XP s w l).map evC) L:=by
 have hex:∃r h',(∃L,h'=h++L/\NoRes L/\New h 11 r ((XP s w l).map evC) L)/\ResK h h':=
  ⟨.sl 11 _,_,⟨[],rfl,jm,λ_ _=>⟨rfl,λ_=>rfl⟩⟩,resK_app⟩
 refine zj Tryz.f124 [.tmp 6] 11 rfl rfl rfl rfl rfl rfl (by decide) (hex) λB=>?_
 simp only[go_sem,k.w.one,k.e.one,k.c.one,k.g.one,k.r.one,k.t.one]
 refine zh (c57 _ x l (q.app _) (by omega)) ?_
 have m:=xj l
 rintro r C (⟨rfl,rfl,rfl⟩|⟨rfl,rfl⟩)
 ·simp only[go_sem]
  refine zh (jlb _ _ _) ?_
  rintro _ y ⟨rfl,d⟩
  subst d
  simp only[go_sem]
  exact⟨.v (.slice none 0 0),by simp only[go_sem],.inl ⟨_,rfl,zl rfl (zD rfl),λ_ _=>⟨rfl,λh=>absurd rfl h⟩⟩⟩
 ·simp only[go_sem]
  have z:(h++[.box 30 (qg s a),.box 3 [i64 w],jh (qu l) 1])[h.length+2]? =some (jh (qu l) 1):=by rw[zG rfl];rfl
  refine zh (c73 _ (h.length+2) 1 (qu l) 196 _ (Ql s w) z (by omega) λe A o L=>?_) ?_
  ·have b:(h++[.box 30 (qg s a),.box 3 [i64 w],jh (qu l) 1]).set (h.length+2) o=h++[.box 30 (qg s a),.box 3 [i64 w],o]:=by
    rw[zT _ _ (by omega),show h.length+2 - h.length=2 by omega]
    rfl
   rw[b,zr]
   refine c74 _ _ _ e w s a (k.app _) ?_ ?_
   ·rw[zG rfl];rfl
   ·rw[zK rfl];rfl
  ·rintro r y ⟨l2,rfl,u,i⟩
   have b:(h++[.box 30 (qg s a),.box 3 [i64 w],jh (qu l) 1]).set (h.length+2) (jh l2 1)=h++[.box 30 (qg s a),.box 3 [i64 w],jh l2 1]:=by
    rw[zT _ _ (by omega),show h.length+2 - h.length=2 by omega]
    rfl
   rw[b] at i⊢
   simp only[go_sem]
   refine⟨r,by simp only[go_sem],.inl ⟨_,rfl,zl rfl (zl rfl (zD rfl)),λf j=>?_⟩⟩
   have d:(f++[.box 30 (qg s a),.box 3 [i64 w],jh l2 1])[h.length+2]? =(h++[.box 30 (qg s a),.box 3 [i64 w],jh l2 1])[h.length+2]? :=by
    rw[zG j.symm,zG rfl]
   have p:qc (f++[.box 30 (qg s a),.box 3 [i64 w],jh l2 1]) r=qc (h++[.box 30 (qg s a),.box 3 [i64 w],jh l2 1]) r/\eOf (f++[.box 30 (qg s a),.box 3 [i64 w],jh l2 1]) r=eOf (h++[.box 30 (qg s a),.box 3 [i64 w],jh l2 1]) r:=by
    rcases u with rfl|⟨n,rfl⟩
    ·rw[q8,q8,jO,jO,d];exact⟨rfl,rfl⟩
    ·rw[vC,vC,Q1,Q1,q8,q8,jO,jO,d];exact⟨rfl,rfl⟩
   exact⟨by rw[p.1];exact i.rows,λh=>by rw[p.2];exact i.ee h⟩
def wl(w:Int)(e:Ev):Bool:=e.kind==7 && xS e.at_==w
def kp(l:List Ev)(w:Int):Nat:=(l.filter (wl w)).length
theorem c45(h:List Ob)(x:AV)(l:List Ev)(w:Int)(s:SlOf h x 11 (l.map evC))(E:l.length<1048576):
  ACalls Tryz.prog 130 [x,i64 w] h λr h'=>r=i64 (kp l w)/\h'=h:=by
 have t:∀M,qc (h++M) x=some (l.map evC):=λM=>(s.app M).rows
 refine zj Tryz.f130 [.tmp 4] 27 rfl rfl rfl rfl rfl rfl (by decide) (⟨_,_,⟨rfl,rfl⟩,.refl⟩) λB=>?_
 simp only[go_sem,s.rows,t,zb]
 refine zO (by decide) (λm T h'=>∃(k:Nat) (L:List Ob),h'=h++L/\k<=l.length/\T 1=i64 w/\T 4=i64 (kp (l.take k) w)/\T 7=x/\T 8=i64 l.length/\T 9=i64 k/\m=l.length - k) l.length
  ⟨0,[],by simp,by omega,by simp only[go_sem],by(simp only[go_sem]<;>rfl),by simp only[go_sem],by simp only[go_sem],by(simp only[go_sem]<;>rfl),rfl⟩ ?_
 rintro m T h' ⟨k,L,rfl,G,t1,t4,p,t8,t9,rfl⟩
 simp only[go_sem,t8,t9]
 refine ways (λe=>?_) (λe=>?_)
 ·have f:=dlt e
  have n:=(s.app L).at (i:=k) (by simpa using f)
  have d:(l.map evC)[k]? =some (evC l[k]):=xn (zi f)
  have j:=xZ f
  obtain⟨v,u⟩:∃v,v=l[k]:=⟨_,rfl⟩
  rw[<-u] at d
  have F:(l.take k).length=k:=by simp;omega
  have D:kp (l.take k) w<=k:=by
   have:=qh (wl w) (l.take k)
   unfold kp
   omega
  have a:kp (l.take (k+1)) w=kp (l.take k) w+(if wl w v then 1 else 0):=by
   unfold kp
   rw[<-zE f,qo,zg, <-u]
   cases h:wl w v<;>simp[h]
  have gN:∀b,(h++(L++[b]))[h.length+L.length]? =some b:=λb=>by
   rw[zG rfl]
   simp
  have y:∀b c,(h++(L++[b])).set (h.length+L.length) c=h++(L++[c]):=λb c=>by
   rw[zT _ _ (by simp),show h.length+L.length - h.length=L.length by omega,zT _ _ (zp _),Nat.sub_self]
   rfl
  by_cases z:v.kind=7
  ·have g:(v.kind==7)=true:=by simpa using z
   simp only[go_sem,p,t9,t1,t,n,d,j,gN,y,zb,Int.toNat_natCast,zf,g,qv]
   refine zh (c17 v.at_ _) ?_
   rintro _ H ⟨rfl,A⟩
   subst A
   simp only[go_sem,t1]
   refine ways (λq=>?_) (λq=>?_)
   ·have o:wl w v=true:=by simp only[wl,g];exact q
    rw[o,if_pos rfl] at a
    simp only[go_sem,t4,t9]
    exact⟨l.length - (k+1),by omega,k+1,L++[.box 75 (evC v)],rfl,by omega,t1,by rw[a];exact qn (by omega) rfl,p,t8,qn (by omega) rfl,rfl⟩
   ·have o:wl w v=false:=by simp only[wl,g];exact q
    rw[o,if_neg (by simp)] at a
    simp only[go_sem,t9]
    exact⟨l.length - (k+1),by omega,k+1,L++[.box 75 (evC v)],rfl,by omega,t1,by rw[a];exact t4,p,t8,qn (by omega) rfl,rfl⟩
  ·have g:(v.kind==7)=false:=by simpa using z
   have o:wl w v=false:=by simp only[wl,g];rfl
   rw[o,if_neg (by simp)] at a
   simp only[go_sem,p,t9,t,n,d,j,gN,y,zb,Int.toNat_natCast,zf,g,qv]
   exact⟨l.length - (k+1),by omega,k+1,L++[.box 75 (evC v)],rfl,by omega,t1,by rw[a];exact t4,t8,qn (by omega) rfl,rfl⟩
 ·have C:=xr e
  have:k=l.length:=by omega
  subst this
  rw[zV] at t4
  simp only[go_sem,t4]
  refine zn ?_<;>(simp only[go_sem]<;>try rfl)
attribute [go_sem] Joa K8a
theorem c62(n:Int):xy Tryz.prog 200 [i64 n] (rat (n,1)):=λh=>by
 refine zj Tryz.f200 [.cell 2 24] 5 rfl rfl rfl rfl rfl rfl (by decide) (⟨_,_,⟨rfl,rfl⟩,.refl⟩) λB=>?_
 simp only[go_sem]
 refine zn ?_<;>(simp only[go_sem]<;>try rfl)
theorem c61(a b:qw)(f:jq a)(d:jq b):xy Tryz.prog 199 [rat a,rat b] (KX (y8 [a,b])):=λh=>by
 refine zj Tryz.f199 [.cell 4 24,.tmp 5] 12 rfl rfl rfl rfl rfl rfl (by decide) (⟨_,_,⟨rfl,rfl⟩,.refl⟩) λB=>?_
 simp only[go_sem]
 refine zh (c23 _ _ [a,b] (λp c=>by
  rcases zy.1 c with rfl|c
  ·exact f
  ·rw[zW.1 c];exact d) (by simp) ⟨by simp only[go_sem,List.map_cons,List.map_nil,jS],λ_=>by simp only[go_sem]⟩) ?_
 rintro _ g ⟨rfl,e⟩
 subst e
 simp only[go_sem]
 refine zn ?_<;>(simp only[go_sem]<;>try rfl)
theorem c60(h:List Ob)(j:Nat)(d:Int)(f:FuncId)(a b:qw)(v:qw × Int)(g:h[j]? =some (.box 37 [i64 d]))(p:∀L,ACalls Tryz.prog f [rat a,rat b] (h++L) λr h'=>r=KX v/\h'=h++L):
  ACalls Tryz.prog 198 [.fn (.func f) [] [],rat a,rat b,.ptr j 0] h λr h'=>r=rat (if d=0 then v.1 else(0,0))/\h'=h.set j (.box 37 [i64 (if d=0 then v.2 else d)]):=by
 have i:∀M,(h++M)[j]? =some (.box 37 [i64 d]):=λM=>ze g
 have k:∀M o,(h++M).set j o=h.set j o++M:=λM o=>jj g
 refine zj Tryz.f198 [.cell 7 24] 22 rfl rfl rfl rfl rfl rfl (by decide) (⟨_,_,⟨rfl,rfl⟩,qj g rfl⟩) λB=>?_
 simp only[go_sem,i]
 refine ways (λe=>?_) (λe=>?_)
 ·have e:¬ d=0:=by simpa using e
  simp only[go_sem,i]
  exact⟨rat (0,0),by simp only[go_sem],.inr ⟨h,_,rfl,rfl,rfl,KeepLt.refl,by rw[if_neg e],by rw[if_neg e,qS g]⟩⟩
 ·have e:d=0:=by simpa using e
  simp only[go_sem]
  refine zh (p _) ?_
  rintro _ q ⟨rfl,l⟩
  subst l
  have gN:∀o M n,(h.set j o++M)[h.length+n]? =M[n]? :=λo M n=>zG (by simp)
  have m:∀o M n c,(h.set j o++M).set (h.length+n) c=h.set j o++M.set n c:=λo M n c=>by
   rw[zT _ _ (by simp),zJ,show h.length+n - h.length=n by omega]
  simp only[go_sem,i,k,gN,m,List.set_cons_succ,List.set_cons_zero,List.getElem?_cons_succ,List.getElem?_cons_zero]
  exact⟨rat v.1,by simp only[go_sem,gN,List.getElem?_cons_succ,List.getElem?_cons_zero],.inr ⟨h.set j _,_,rfl,by simp,rfl,KeepLt.refl.set rfl rfl,by rw[if_pos e],by rw[if_pos e]⟩⟩
attribute [go_sem] Vaa Jqa
def Zb(p:qw)(t:K1):Bool:= !YN p (make t.1 100).1
def QF(p:qw):Int->Int->List K1->Int
 | out,_,[]=>out
 | out,i,t::l=>QF p (if Zb p t then i else out) (i+1) l
def vk(s:Setup)(p:qw):Int:=if z6 s && rok p then QF p (-1) 0 s.tiers else -1
theorem c26(h:List Ob)(s:Setup)(a:SA)(j:SIn h s a)(f:SFit s)(p:qw)(C:jq p):
  ACalls Tryz.prog 59 [jg s a,rat p] h λr h'=>r=i64 (vk s p)/\h'=h:=by
 refine zj Tryz.f59 [.tmp 4] 40 rfl rfl rfl rfl rfl rfl (by decide) (⟨_,_,⟨rfl,rfl⟩,.refl⟩) λB=>?_
 simp only[go_sem,j.w.one,j.e.one,j.c.one,j.g.one,j.r.one,j.t.one]
 refine zh (c16 _ s a (j.app _) f) ?_
 rintro _ E ⟨rfl,o⟩
 subst o
 cases v:z6 s with
 | false=>
   simp only[go_sem,v,VPa,Bool.not_true,Bool.not_false]
   refine zn ?_<;>(simp only[go_sem,vk,v,Bool.false_and]<;>try rfl)
 | true=>
   simp only[go_sem,v,VPa,Bool.not_true,Bool.not_false]
   refine zh (c27 p C.1 C.2 _) ?_
   rintro _ E ⟨rfl,o⟩
   subst o
   cases y:rok p with
   | false=>
     simp only[go_sem,y,Bool.not_true,Bool.not_false]
     refine zn ?_<;>(simp only[go_sem,vk,v,y,Bool.true_and]<;>try rfl)
   | true=>
     have I:∀M,qc (h++M) a.t=some (s.tiers.map jS):=λM=>(j.app M).t.rows
     simp only[go_sem,y,Bool.not_true,Bool.not_false,I,zb]
     have N:=f.nt
     refine zO (by decide) (λm T h'=>∃(k:Nat) (out:Int) (L:List Ob),h'=h++(.box 30 (qg s a):: .box 24 [i64 p.1,i64 p.2]::L)/\k<=s.tiers.length/\T 3= .ptr (h.length+1) 0/\T 5=i64 out/\T 20=a.t/\T 21=i64 s.tiers.length/\T 22=i64 k/\QF p (-1) 0 s.tiers=QF p out k (s.tiers.drop k)/\m=s.tiers.length - k) s.tiers.length
      ⟨0, -1,[],rfl,by omega,by simp only[go_sem],by(simp only[go_sem]<;>rfl),by simp only[go_sem],by simp only[go_sem],by(simp only[go_sem]<;>rfl),rfl,rfl⟩ ?_
     rintro m T h' ⟨k,out,L,q,O,t3,t5,l,n,t22,x,rfl⟩
     have H:SlOf h' a.t 2 (s.tiers.map jS):=by rw[q];exact j.t.app _
     simp only[go_sem,n,t22]
     refine ways (λe=>?_) (λe=>?_)
     ·have d:=dlt e
      have F:=H.at (i:=k) (by simpa using d)
      have u:(s.tiers.map jS)[k]? =some (jS s.tiers[k]):=by rw[zz,zi d];rfl
      have z:=xZ d
      have K:∀M,(h'++M)[h.length+1]? =some (.box 24 [i64 p.1,i64 p.2]):=λM=>by rw[q];exact ze (by rw[zG rfl];rfl)
      simp only[go_sem,l,t22,F,H.rows,u,z,jS,zb,Int.toNat_natCast,zf]
      refine zh (c18 s.tiers[k].1 100 (f.tiers _ (zx d)).1 ⟨by decide,by decide⟩ _) ?_
      rintro _ E ⟨rfl,o⟩
      subst o
      simp only[go_sem,t3,K]
      refine zh (c20 p _ C (Qw _ _) _) ?_
      rintro _ E ⟨rfl,o⟩
      subst o
      simp only[go_sem]
      have b:QF p out k (s.tiers.drop k)=QF p (if Zb p s.tiers[k] then(k:Int) else out) ((k+1:Nat):Int) (s.tiers.drop (k+1)):=by
       rw[qU d,QF]
       rfl
      refine ways (λA=>?_) (λA=>?_)
      ·have D:Zb p s.tiers[k]=true:=A
       rw[D,if_pos rfl] at b
       simp only[go_sem,t22]
       exact⟨s.tiers.length - (k+1),by omega,k+1,k,L++_,by rw[q];simp only[zr,List.cons_append];rfl,by omega,t3,rfl,l,n,qn (by omega) rfl,by rw[x,b],rfl⟩
      ·have D:Zb p s.tiers[k]=false:=A
       rw[D,if_neg (by simp)] at b
       simp only[go_sem,t22]
       exact⟨s.tiers.length - (k+1),by omega,k+1,out,L++_,by rw[q];simp only[zr,List.cons_append];rfl,by omega,t3,t5,l,n,qn (by omega) rfl,by rw[x,b],rfl⟩
     ·have J:=xr e
      have G:k=s.tiers.length:=by omega
      subst G
      rw[List.drop_length,QF] at x
      subst q
      simp only[go_sem,t5]
      refine zn ?_<;>(simp only[go_sem,vk,v,y,Bool.true_and,x]<;>try rfl)
