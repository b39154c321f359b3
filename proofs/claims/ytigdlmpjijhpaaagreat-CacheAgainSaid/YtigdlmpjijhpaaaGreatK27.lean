import Derived.Test.YtigdlmpjijhpaaaGreatKA
import Derived.Test.YtigdlmpjijhpaaaGreatK20
set_option linter.all false
namespace Go.Proofs.YtigdlmpjijhpaaaGreat.Ax
open Go Go.Proofs
set_option maxRecDepth 100000
attribute [go_sem] Yta YYa
theorem V2a{b:Bool}:(b==false)= !b:=by cases b<;>rfl
theorem c40:xA Tryz.prog 123 [] (rat (0,1)):=λh=>by
 refine zi Tryz.f123 [.cell 0 24] 2 rfl rfl rfl rfl rfl rfl (by decide) (⟨_,_,⟨rfl,rfl⟩,.refl⟩) λB=>?_
 simp only[go_sem]
 refine zn ?_<;>(simp only[go_sem]<;>try rfl)
def Zc(id:Int)(e:Ev):Bool:=e.id==id && e.kind==3
theorem c43(h:List Ob)(i:Nat)(e:Ev)(g:Seg)(hi:h[i]? =some (.box 146 (xT g))):ACalls Tryz.prog 125 [evV e,.ptr i 0] h λr h'=>r=bl (Zc g.id e)/\h'=h:=by
 have b:∀M,(h++M)[i]? =some (.box 146 (xT g)):=λM=>ze hi
 cases a:e.id==g.id with
 | false=>
   refine zi Tryz.f125 [.tmp 3] 14 rfl rfl rfl rfl rfl rfl (by decide) (⟨_,_,⟨rfl,rfl⟩,.refl⟩) λB=>?_
   simp only[go_sem,b,a,qt]
   refine zn ?_<;>(simp only[go_sem,Zc,a,Bool.false_and]<;>try rfl)
 | true=>
   refine zi Tryz.f125 [.tmp 3] 14 rfl rfl rfl rfl rfl rfl (by decide) (⟨_,_,⟨rfl,rfl⟩,.refl⟩) λB=>?_
   simp only[go_sem,b,a,qt]
   refine zn ?_<;>(simp only[go_sem,Zc,a,Bool.true_and]<;>try rfl)
def Qn(s:Setup)(w:Int)(e:Ev):Bool:=e.worker != w || !vK s e
theorem c74(h:List Ob)(i j:Nat)(e:Ev)(w:Int)(s:Setup)(a:SA)(k:SIn h s a)(hi:h[i]? =some (.box 3 [i64 w]))(f:h[j]? =some (.box 30 (qg s a))):ACalls Tryz.prog 196 [evV e,.ptr i 0,.ptr j 0] h λr h'=>r=bl (Qn s w e)/\h'=h:=by
 have d:∀M,(h++M)[i]? =some (.box 3 [i64 w]):=λM=>ze hi
 have b:∀M,(h++M)[j]? =some (.box 30 (qg s a)):=λM=>ze f
 cases c:e.worker != w with
 | true=>
   refine zi Tryz.f196 [.tmp 4] 15 rfl rfl rfl rfl rfl rfl (by decide) (⟨_,_,⟨rfl,rfl⟩,.refl⟩) λB=>?_
   simp only[go_sem,d,b,c,V2a,Bool.not_true,Bool.not_false]
   refine zn ?_<;>(simp only[go_sem,Qn,c,Bool.true_or]<;>try rfl)
 | false=>
   refine zi Tryz.f196 [.tmp 4] 15 rfl rfl rfl rfl rfl rfl (by decide) (⟨_,_,⟨rfl,rfl⟩,.refl⟩) λB=>?_
   simp only[go_sem,d,b,c,V2a,Bool.not_true,Bool.not_false]
   refine zg (c14 _ s a (k.app _) e) ?_
   rintro _ l ⟨rfl,g⟩
   subst g
   simp only[go_sem]
   refine zn ?_<;>(simp only[go_sem,Qn,c,Bool.false_or]<;>try rfl)
theorem c44(h:List Ob)(j:Nat)(n d b:Int)(a:qx)(e:Int)(f:h[j]? =some (.box 210 [i64 n,i64 d,i64 b])):
  ACalls Tryz.prog 127 [.ptr j 0,rat a,i64 e] h λr h'=>r= .tup []/\h'=h.set j (.box 210 (if b=0 then [i64 a.1,i64 a.2,i64 e] else [i64 n,i64 d,i64 b])):=by
 have l:∀M,(h++M)[j]? =some (.box 210 [i64 n,i64 d,i64 b]):=λM=>ze f
 have m:∀M o,(h++M).set j o=h.set j o++M:=λM o=>jk f
 have k:∀M o,(h.set j o++M)[j]? =some o:=λM o=>ze (zm f)
 have i:∀M o g,(h.set j o++M).set j g=h.set j g++M:=λM o g=>by
  rw[jk (zm f),qd]
 refine zi Tryz.f127 [] 19 rfl rfl rfl rfl rfl rfl (by decide) (⟨_,_,⟨rfl,rfl⟩,qi f rfl⟩) λB=>?_
 simp only[go_sem,l]
 refine ways (λc=>?_) (λc=>?_)
 ·have c:b=0:=by simpa using c
  simp only[go_sem,l,m,k,i]
  exact⟨.tup [],by simp only[go_sem],.inr ⟨_,_,rfl,by simp,rfl,KeepLt.refl.set rfl rfl,rfl,by rw[if_pos c]⟩⟩
 ·have c:¬ b=0:=by simpa using c
  simp only[go_sem]
  exact⟨.tup [],by simp only[go_sem],.inr ⟨h,_,rfl,rfl,rfl,KeepLt.refl,rfl,by rw[if_neg c,qS f]⟩⟩
def avI:AV->Int
 | .v (.int _ n)=>n
 | _=>0
def WA(r:List AV):Ev:=⟨avI (nth r 0),avI (nth r 1),avI (nth r 2),avI (nth r 3),avI (nth r 4),avI (nth r 5),avI (nth r 6),avI (nth r 7),avI (nth r 8),avI (nth r 9),avI (nth r 10)⟩
def wta:Ev:=⟨0,0,0,0,0,0,0,0,0,0,0⟩
theorem j2a(e:Ev):WA (evC e)=e:=rfl
theorem Xa(p:Ev->Bool)(l:List Ev):(JX (l.map evC) (λr=>p (WA r))= -1/\∀e∈l,p e=false)∨∃A x R,l=A++x::R/\JX (l.map evC) (λr=>p (WA r))=(A.length:Int)/\p x=true/\∀e∈A,p e=false:=by
 by_cases h:∀e∈l,p e=false
 ·refine .inl ⟨yB λj b=>?_,h⟩
  rw[List.getElem_map,j2a]
  exact h _ (zy _)
 ·right
  induction l with
  | nil=>exact absurd (λe a=>by cases a) h
  | cons y l g=>
    cases c:p y with
    | true=>exact⟨[],y,l,rfl,wY (rows:=(y::l).map evC) (k:=0) (by simp) (λj b=>by omega) c,c,λe a=>by cases a⟩
    | false=>
      obtain⟨A,x,R,rfl,m,f,i⟩:=g (λq=>h λe a=>by
       rcases zx.1 a with rfl|a
       ·exact c
       ·exact q e a)
      have d:∀e∈y::A,p e=false:=λe a=>by
       rcases zx.1 a with rfl|a
       ·exact c
       ·exact i e a
      refine⟨y::A,x,R,rfl,?_,f,d⟩
      refine wY (by simp) (λj b=>?_) ?_
      ·rw[List.getElem_map,j2a]
       have:(y::(A++x::R))[j]'(by simp at b ⊢;omega)=(y::A)[j]:=by
        have q:((y::A)++x::R)[j]'(by simp at b ⊢;omega)=(y::A)[j]:=List.getElem_append_left b
        exact q
       rw[this]
       exact d _ (zy _)
      ·rw[List.getElem_map,j2a]
       have:(y::(A++x::R))[(y::A).length]'(by simp)=x:=by
        rw[List.getElem_of_eq (show y::(A++x::R)=(y::A)++x::R from rfl),List.getElem_append_right (zo _)]
        simp
       rw[this]
       exact f
theorem vE{n:Nat}:∀l:List Ev,qM n (l.map evC)=true
 | []=>rfl
 | e::l=>by
   rw[List.map_cons,qM,vE l]
   rfl
theorem q0a{p:Ev->Bool}{l:List Ev}(h:∀e∈l,p e=false):l.filter (λe=> !p e)=l:=List.filter_eq_self.2 λe a=>by simp[h e a]
theorem c73(h:List Ob)(id st:Nat)(l:List Ev)(f:FuncId)(cs:List AV)(p:Ev->Bool)(hi:h[id]? =some (ji l st))(hl:l.length<1048576)(Z:∀e∈l,∀o L,ACalls Tryz.prog f ([evV e]++cs) (h.set id o++L) λr h'=>r=bl (p e)/\h'=h.set id o++L):
  ACalls Tryz.prog 52 [.tl id st,.fn (.func f) [] cs] h λr h'=>∃l2,h'=h.set id (ji l2 st)/\(r= .tl id st∨∃n,r= .vw (.tl id st) 11 0 n)/\SlOf h' r 11 ((l.filter λe=> !p e).map evC):=by
 have hex:∃r h',(∃l2,h'=h.set id (ji l2 st)/\(r=AV.tl id st∨∃n,r= .vw (.tl id st) 11 0 n)/\SlOf h' r 11 ((l.filter λe=> !p e).map evC))/\ResK h h':=
  ⟨.tl id st,_,⟨l.filter λe=> !p e,rfl,.inl rfl,by rw[qZ,zm hi,kY,if_pos rfl],λ_=>by rw[jP,zm hi,wl]⟩,qi hi rfl⟩
 have U:SlOf h (.tl id st) 11 (l.map evC):=⟨by rw[qZ,hi,kY,if_pos rfl],λ_=>by rw[jP,hi,wl]⟩
 have O:ZG h f cs agA (l.map evC) (λr=>p (WA r)):=λrow F L=>by
  obtain⟨e,he,rfl⟩:=zr.1 F
  have:=Z e he (ji l st) L
  rw[qS hi] at this
  exact this
 refine zi Tryz.f52 [.tmp 4] 42 rfl rfl rfl rfl rfl rfl (by decide) (hex) λB=>?_
 simp only[go_sem]
 refine zg (c42 h _ f cs _ _ (by rw[zb];omega) (λr hr=>by obtain⟨e,_,rfl⟩:=zr.1 hr;rfl) U O) ?_
 rintro _ i ⟨rfl,e1⟩
 subst e1
 rcases Xa p l with⟨K,Q⟩|⟨A,x,R,rfl,K,Q,q3⟩
 ·rw[K]
  simp only[go_sem]
  exact⟨.tl id st,by simp only[go_sem],.inl ⟨l,(qS hi).symm,.inl rfl,by rw[q0a Q];exact U⟩⟩
 ·rw[K]
  have J:((A.length:Int)== -1)=false:=by simp
  simp only[zf,List.length_cons] at hl
  have w1:wr ((A.length:Int)+1)=((A.length+1:Nat):Int):=xF (by omega)
  have y:((A++[x]).filter λe=> !p e)=A:=by rw[qu,q0a q3];simp[Q]
  simp only[go_sem,J,w1]
  refine zI (by decide) (λn T h'=>∃(P X d:List Ev) (L:List Ob),P++d=A++x::R/\(P.filter λe=> !p e).length+X.length=P.length/\0<X.length/\h'=i.set id (ji ((P.filter λe=> !p e)++(X++d)) st)++L/\T 0= .tl id st/\T 1= .fn (.func f) [] cs/\T 5=i64 (P.filter λe=> !p e).length/\T 6=i64 P.length/\n=d.length) R.length
   ⟨A++[x],[x],R,[],by simp,by rw[y];simp,by simp,by rw[y,zH];exact(qS hi).symm,by simp only[go_sem],by simp only[go_sem],by(simp only[go_sem]<;>rw[y]),by(simp only[go_sem]<;>simp),rfl⟩ ?_
  rintro n T h' ⟨P,X,d,L,k,N,S,rfl,t0,t1,t5,t6,rfl⟩
  have G:∀M o,(i.set id o++M)[id]? =some o:=λM o=>ze (zm hi)
  have D:=congrArg List.length k
  simp only[zf,List.length_cons] at D
  simp only[go_sem,t6,t0,G,zb,zf]
  refine ways (λe=>?_) (λe=>?_)
  ·have m:=dlt e
   cases d with
   | nil=>simp at m;omega
   | cons v d=>
   simp only[List.length_cons] at m D
   obtain⟨a,j⟩:∃a,a=P.filter λe=> !p e:=⟨_,rfl⟩
   rw[<-j] at N t5 m⊢
   have hv:v∈A++x::R:=by rw[<-k];simp
   have I:(a++(X++v::d))[P.length]? =some v:=by
    rw[<-zt]
    exact QB (by simp;omega)
   have ra:((a++(X++v::d)).map evC)[P.length]? =some (evC v):=xo I
   have la:(P.length:Int)<((a.length+(X.length+(d.length+1)):Nat):Int):=by omega
   have W:wr ((P.length:Int)+1)=((P.length+1:Nat):Int):=xF (by omega)
   have w3:wr ((a.length:Int)+1)=((a.length+1:Nat):Int):=xF (by omega)
   obtain⟨l3,s⟩:∃l3,l3=a++(X++v::d):=⟨_,rfl⟩
   rw[<-s] at ra⊢
   have q:l3.length=a.length+(X.length+(d.length+1)):=by rw[s];simp
   have gN:∀o b,(i.set id o++(L++[b]))[i.length+L.length]? =some b:=λo b=>by
    rw[zG (by simp)]
    simp
   have sN:∀o b c,(i.set id o++(L++[b])).set (i.length+L.length) c=i.set id o++(L++[c]):=λo b c=>by
    rw[zU _ _ (by simp),zN,show i.length+L.length - i.length=L.length by omega,zU _ _ (zo _),Nat.sub_self]
    rfl
   simp only[go_sem,gN,sN,t6,t0,t1,G,ra,la,q,zb,Int.toNat_natCast,zh]
   refine zg (Z v hv _ _) ?_
   rintro _ h3 ⟨rfl,e3⟩
   subst e3
   simp only[go_sem]
   have t:(P++[v])++d=A++x::R:=by rw[<-k];simp
   refine ways (λu=>?_) (λu=>?_)
   ·have u:p v=false:=by simpa using u
    have g:((P++[v]).filter λe=> !p e)=a++[v]:=by rw[qu, <-j];simp[u]
    cases X with
    | nil=>simp at S
    | cons V X=>
    have E:l3=a++V::(X++v::d):=s
    have rb:(l3.map evC)[a.length]? =some (evC V):=xo (by rw[E];exact QB rfl)
    have H:∀M o w,(i.set id o++M).set id w=i.set id w++M:=λM o w=>by
     rw[jk (zm hi),qd]
    have lb:(a.length:Int)<((a.length+(X.length+1+(d.length+1)):Nat):Int):=by omega
    have C:(l3.map evC).set a.length (evC v)=(a++v::(X++v::d)).map evC:=by
     rw[<-List.map_set,E,zU _ _ (zo _),Nat.sub_self]
     rfl
    have hq:(a++[v])++((X++[v])++d)=a++v::(X++v::d):=by simp
    simp only[go_sem,gN,H,rb,lb,q,zb,Int.toNat_natCast,zh,t0,t1,t5,t6,G,W,w3,C]
    exact⟨d.length,by simp,P++[v],X++[v],d,L++[.box 75 (evC v)],t,by rw[g];simp at N ⊢;omega,by simp,by rw[g,hq],by rw[g];exact j6 (by simp),j6 (by simp),rfl⟩
   ·have u:p v=true:=by simpa using u
    have g:((P++[v]).filter λe=> !p e)=a:=by rw[qu, <-j];simp[u]
    simp only[go_sem,t6,W]
    exact⟨d.length,by simp,P++[v],X++[v],d,L++[.box 75 (evC v)],t,by rw[g];simp;omega,by simp,by rw[g,s];simp,t0,t1,by rw[g];exact t5,j6 (by simp),rfl⟩
  ·have γ:=j9 e
   have hR:d=[]:=zF (by omega)
   subst hR
   rw[zH] at k
   subst k
   obtain⟨a,j⟩:∃a,a=(A++x::R).filter λe=> !p e:=⟨_,rfl⟩
   rw[<-j] at t5 N⊢
   have f0:(0:Int)<=(a.length:Int):=by omega
   have Y:(a.length:Int)<=((a.length+X.length:Nat):Int):=by omega
   have f2:a.length+X.length - a.length=X.length:=by omega
   have H:∀M o w,(i.set id o++M).set id w=i.set id w++M:=λM o w=>by
    rw[jk (zm hi),qd]
   have hz:List.take a.length ((a++X).map evC)++(List.replicate X.length ([i64 0,i64 0,i64 0,i64 0,i64 0,i64 0,i64 0,i64 0,i64 0,i64 0,i64 0]:List AV)++List.drop (a.length+X.length) ((a++X).map evC))=(a++List.replicate X.length wta).map evC:=by
    rw[List.drop_of_length_le (by simp),zH,zw,zw,qE (by simp),List.take_of_length_le (by simp),List.map_replicate]
    rfl
   have f3:((a.length:Nat):Int)<=((a.length+X.length:Nat):Int):=Y
   simp only[go_sem,t0,t5,G,H,hz,zb,zf,jb,f0,Y,f2,Int.toNat_natCast,true_and,or_true,Int.le_refl,zo,Option.bind_some,jb,List.all_replicate,ite_self,Nat.sub_zero]
   have m:=(zd.1 hi).1
   refine⟨.vw (.tl id st) 11 0 a.length,by simp only[go_sem],.inr ⟨i.set id _,L,rfl,by simp,by simp[AV.lt,m],KeepLt.refl.set rfl (vE _),⟨_,rfl,.inr ⟨_,rfl⟩,?_⟩⟩⟩
   have z:=zm (b:=ji (a++List.replicate X.length wta) st) hi
   refine⟨?_,λ_=>?_⟩
   ·rw[vD,qZ,z,kY,if_pos rfl,Option.bind_some,if_pos ⟨by simp,.inr (by rw[jP,z,wl])⟩]
    simp
   ·rw[Q3,jP,z,wl]
    rfl
theorem jCb(f:FuncId)(cs:List AV):xA Tryz.prog 52 [.v (.slice none 0 0),.fn (.func f) [] cs] (.v (.slice none 0 0)):=λh=>by
 refine zi Tryz.f52 [.tmp 4] 42 rfl rfl rfl rfl rfl rfl (by decide) (⟨_,_,⟨rfl,rfl⟩,.refl⟩) λB=>?_
 simp only[go_sem]
 refine zg (c42 h _ f cs [] (λ_=>false) (by simp) (λr a=>by cases a) ⟨rfl,λh=>absurd rfl h⟩ (λr a=>by cases a)) ?_
 rintro _ c ⟨rfl,b⟩
 subst b
 have:JX [] (λ_=>false)= -1:=rfl
 simp only[go_sem,this]
 refine zn ?_<;>(simp only[go_sem]<;>try rfl)
def XQ(s:Setup)(w:Int)(l:List Ev):List Ev:=(qv l).filter λe=> !Qn s w e
theorem c41(h:List Ob)(s:Setup)(a:SA)(k:SIn h s a)(x:AV)(l:List Ev)(w:Int)(q:SlOf h x 11 (l.map evC))(A:l.length<1048576):
  ACalls Tryz.prog 124 [je s a,x,i64 w] h λr h'=>∃L,h'=h++L/\NoRes L/\New h 11 r ((XQ s w l).map evC) L:=by
 have hex:∃r h',(∃L,h'=h++L/\NoRes L/\New h 11 r ((XQ s w l).map evC) L)/\ResK h h':=
  ⟨.sl 11 _,_,⟨[],rfl,jh,λ_ _=>⟨rfl,λ_=>rfl⟩⟩,resK_app⟩
 refine zi Tryz.f124 [.tmp 6] 11 rfl rfl rfl rfl rfl rfl (by decide) (hex) λB=>?_
 simp only[go_sem,k.w.one,k.e.one,k.c.one,k.g.one,k.r.one,k.t.one]
 refine zg (c57 _ x l (q.app _) (by omega)) ?_
 have p:=xl l
 rintro r D (⟨rfl,rfl,rfl⟩|⟨rfl,rfl⟩)
 ·simp only[go_sem]
  refine zg (jCb _ _ _) ?_
  rintro _ u ⟨rfl,d⟩
  subst d
  simp only[go_sem]
  exact⟨.v (.slice none 0 0),by simp only[go_sem],.inl ⟨_,rfl,zl rfl (zD rfl),λ_ _=>⟨rfl,λh=>absurd rfl h⟩⟩⟩
 ·simp only[go_sem]
  have z:(h++[.box 30 (qg s a),.box 3 [i64 w],ji (qv l) 1])[h.length+2]? =some (ji (qv l) 1):=by rw[zG rfl];rfl
  refine zg (c73 _ (h.length+2) 1 (qv l) 196 _ (Qn s w) z (by omega) λe C o L=>?_) ?_
  ·have b:(h++[.box 30 (qg s a),.box 3 [i64 w],ji (qv l) 1]).set (h.length+2) o=h++[.box 30 (qg s a),.box 3 [i64 w],o]:=by
    rw[zU _ _ (by omega),show h.length+2 - h.length=2 by omega]
    rfl
   rw[b,zt]
   refine c74 _ _ _ e w s a (k.app _) ?_ ?_
   ·rw[zG rfl];rfl
   ·rw[zM rfl];rfl
  ·rintro r u ⟨l2,rfl,y,j⟩
   have b:(h++[.box 30 (qg s a),.box 3 [i64 w],ji (qv l) 1]).set (h.length+2) (ji l2 1)=h++[.box 30 (qg s a),.box 3 [i64 w],ji l2 1]:=by
    rw[zU _ _ (by omega),show h.length+2 - h.length=2 by omega]
    rfl
   rw[b] at j⊢
   simp only[go_sem]
   refine⟨r,by simp only[go_sem],.inl ⟨_,rfl,zl rfl (zl rfl (zD rfl)),λi f=>?_⟩⟩
   have d:(i++[.box 30 (qg s a),.box 3 [i64 w],ji l2 1])[h.length+2]? =(h++[.box 30 (qg s a),.box 3 [i64 w],ji l2 1])[h.length+2]? :=by
    rw[zG f.symm,zG rfl]
   have m:qa (i++[.box 30 (qg s a),.box 3 [i64 w],ji l2 1]) r=qa (h++[.box 30 (qg s a),.box 3 [i64 w],ji l2 1]) r/\eOf (i++[.box 30 (qg s a),.box 3 [i64 w],ji l2 1]) r=eOf (h++[.box 30 (qg s a),.box 3 [i64 w],ji l2 1]) r:=by
    rcases y with rfl|⟨n,rfl⟩
    ·rw[qZ,qZ,jP,jP,d];exact⟨rfl,rfl⟩
    ·rw[vD,vD,Q3,Q3,qZ,qZ,jP,jP,d];exact⟨rfl,rfl⟩
   exact⟨by rw[m.1];exact j.rows,λh=>by rw[m.2];exact j.ee h⟩
def wq(w:Int)(e:Ev):Bool:=e.kind==7 && xW e.at_==w
def kx(l:List Ev)(w:Int):Nat:=(l.filter (wq w)).length
theorem c45(h:List Ob)(x:AV)(l:List Ev)(w:Int)(q:SlOf h x 11 (l.map evC))(G:l.length<1048576):
  ACalls Tryz.prog 130 [x,i64 w] h λr h'=>r=i64 (kx l w)/\h'=h:=by
 have t:∀M,qa (h++M) x=some (l.map evC):=λM=>(q.app M).rows
 refine zi Tryz.f130 [.tmp 4] 27 rfl rfl rfl rfl rfl rfl (by decide) (⟨_,_,⟨rfl,rfl⟩,.refl⟩) λB=>?_
 simp only[go_sem,q.rows,t,zb]
 refine zI (by decide) (λm T h'=>∃(k:Nat) (L:List Ob),h'=h++L/\k<=l.length/\T 1=i64 w/\T 4=i64 (kx (l.take k) w)/\T 7=x/\T 8=i64 l.length/\T 9=i64 k/\m=l.length - k) l.length
  ⟨0,[],by simp,by omega,by simp only[go_sem],by(simp only[go_sem]<;>rfl),by simp only[go_sem],by simp only[go_sem],by(simp only[go_sem]<;>rfl),rfl⟩ ?_
 rintro m T h' ⟨k,L,rfl,H,t1,t4,p,t8,t9,rfl⟩
 simp only[go_sem,t8,t9]
 refine ways (λe=>?_) (λe=>?_)
 ·have f:=dlt e
  have n:=(q.app L).at (i:=k) (by simpa using f)
  have d:(l.map evC)[k]? =some (evC l[k]):=xo (zj f)
  have j:=kp f
  obtain⟨v,y⟩:∃v,v=l[k]:=⟨_,rfl⟩
  rw[<-y] at d
  have F:(l.take k).length=k:=by simp;omega
  have C:kx (l.take k) w<=k:=by
   have:=qw (wq w) (l.take k)
   unfold kx
   omega
  have a:kx (l.take (k+1)) w=kx (l.take k) w+(if wq w v then 1 else 0):=by
   unfold kx
   rw[<-zE f,qu,zf, <-y]
   cases h:wq w v<;>simp[h]
  have gN:∀b,(h++(L++[b]))[h.length+L.length]? =some b:=λb=>by
   rw[zG rfl]
   simp
  have z:∀b c,(h++(L++[b])).set (h.length+L.length) c=h++(L++[c]):=λb c=>by
   rw[zU _ _ (by simp),show h.length+L.length - h.length=L.length by omega,zU _ _ (zo _),Nat.sub_self]
   rfl
  by_cases u:v.kind=7
  ·have g:(v.kind==7)=true:=by simpa using u
   simp only[go_sem,p,t9,t1,t,n,d,j,gN,z,zb,Int.toNat_natCast,zh,g,qt]
   refine zg (c17 v.at_ _) ?_
   rintro _ E ⟨rfl,D⟩
   subst D
   simp only[go_sem,t1]
   refine ways (λs=>?_) (λs=>?_)
   ·have o:wq w v=true:=by simp only[wq,g];exact s
    rw[o,if_pos rfl] at a
    simp only[go_sem,t4,t9]
    exact⟨l.length - (k+1),by omega,k+1,L++[.box 75 (evC v)],rfl,by omega,t1,by rw[a];exact qf (by omega) rfl,p,t8,qf (by omega) rfl,rfl⟩
   ·have o:wq w v=false:=by simp only[wq,g];exact s
    rw[o,if_neg (by simp)] at a
    simp only[go_sem,t9]
    exact⟨l.length - (k+1),by omega,k+1,L++[.box 75 (evC v)],rfl,by omega,t1,by rw[a];exact t4,p,t8,qf (by omega) rfl,rfl⟩
  ·have g:(v.kind==7)=false:=by simpa using u
   have o:wq w v=false:=by simp only[wq,g];rfl
   rw[o,if_neg (by simp)] at a
   simp only[go_sem,p,t9,t,n,d,j,gN,z,zb,Int.toNat_natCast,zh,g,qt]
   exact⟨l.length - (k+1),by omega,k+1,L++[.box 75 (evC v)],rfl,by omega,t1,by rw[a];exact t4,t8,qf (by omega) rfl,rfl⟩
 ·have A:=j9 e
  have:k=l.length:=by omega
  subst this
  rw[zP] at t4
  simp only[go_sem,t4]
  refine zn ?_<;>(simp only[go_sem]<;>try rfl)
attribute [go_sem] Jya Vla
theorem c62(n:Int):xA Tryz.prog 200 [i64 n] (rat (n,1)):=λh=>by
 refine zi Tryz.f200 [.cell 2 24] 5 rfl rfl rfl rfl rfl rfl (by decide) (⟨_,_,⟨rfl,rfl⟩,.refl⟩) λB=>?_
 simp only[go_sem]
 refine zn ?_<;>(simp only[go_sem]<;>try rfl)
theorem c61(a b:qx)(e:jq a)(d:jq b):xA Tryz.prog 199 [rat a,rat b] (KY (Za [a,b])):=λh=>by
 refine zi Tryz.f199 [.cell 4 24,.tmp 5] 12 rfl rfl rfl rfl rfl rfl (by decide) (⟨_,_,⟨rfl,rfl⟩,.refl⟩) λB=>?_
 simp only[go_sem]
 refine zg (c23 _ _ [a,b] (λp c=>by
  rcases zx.1 c with rfl|c
  ·exact e
  ·rw[zW.1 c];exact d) (by simp) ⟨by simp only[go_sem,List.map_cons,List.map_nil,jH],λ_=>by simp only[go_sem]⟩) ?_
 rintro _ g ⟨rfl,f⟩
 subst f
 simp only[go_sem]
 refine zn ?_<;>(simp only[go_sem]<;>try rfl)
theorem c60(h:List Ob)(j:Nat)(d:Int)(f:FuncId)(a b:qx)(v:qx × Int)(g:h[j]? =some (.box 37 [i64 d]))(l:∀L,ACalls Tryz.prog f [rat a,rat b] (h++L) λr h'=>r=KY v/\h'=h++L):
  ACalls Tryz.prog 198 [.fn (.func f) [] [],rat a,rat b,.ptr j 0] h λr h'=>r=rat (if d=0 then v.1 else(0,0))/\h'=h.set j (.box 37 [i64 (if d=0 then v.2 else d)]):=by
 have i:∀M,(h++M)[j]? =some (.box 37 [i64 d]):=λM=>ze g
 have k:∀M o,(h++M).set j o=h.set j o++M:=λM o=>jk g
 refine zi Tryz.f198 [.cell 7 24] 22 rfl rfl rfl rfl rfl rfl (by decide) (⟨_,_,⟨rfl,rfl⟩,qi g rfl⟩) λB=>?_
 simp only[go_sem,i]
 refine ways (λe=>?_) (λe=>?_)
 ·have e:¬ d=0:=by simpa using e
  simp only[go_sem,i]
  exact⟨rat (0,0),by simp only[go_sem],.inr ⟨h,_,rfl,rfl,rfl,KeepLt.refl,by rw[if_neg e],by rw[if_neg e,qS g]⟩⟩
 ·have e:d=0:=by simpa using e
  simp only[go_sem]
  refine zg (l _) ?_
  rintro _ q ⟨rfl,p⟩
  subst p
  have gN:∀o M n,(h.set j o++M)[h.length+n]? =M[n]? :=λo M n=>zG (by simp)
  have m:∀o M n c,(h.set j o++M).set (h.length+n) c=h.set j o++M.set n c:=λo M n c=>by
   rw[zU _ _ (by simp),zN,show h.length+n - h.length=n by omega]
  simp only[go_sem,i,k,gN,m,List.set_cons_succ,List.set_cons_zero,List.getElem?_cons_succ,List.getElem?_cons_zero]
  exact⟨rat v.1,by simp only[go_sem,gN,List.getElem?_cons_succ,List.getElem?_cons_zero],.inr ⟨h.set j _,_,rfl,by simp,rfl,KeepLt.refl.set rfl rfl,by rw[if_pos e],by rw[if_pos e]⟩⟩
attribute [go_sem] Vna JAa
def Zd(p:qx)(t:K2):Bool:= !YP p (make t.1 100).1
def QI(p:qx):Int->Int->List K2->Int
 | out,_,[]=>out
 | out,i,t::l=>QI p (if Zd p t then i else out) (i+1) l
def vl(s:Setup)(p:qx):Int:=if z6 s && rok p then QI p (-1) 0 s.tiers else -1
theorem c26(h:List Ob)(s:Setup)(a:SA)(j:SIn h s a)(f:SFit s)(p:qx)(G:jq p):
  ACalls Tryz.prog 59 [je s a,rat p] h λr h'=>r=i64 (vl s p)/\h'=h:=by
 refine zi Tryz.f59 [.tmp 4] 40 rfl rfl rfl rfl rfl rfl (by decide) (⟨_,_,⟨rfl,rfl⟩,.refl⟩) λB=>?_
 simp only[go_sem,j.w.one,j.e.one,j.c.one,j.g.one,j.r.one,j.t.one]
 refine zg (c16 _ s a (j.app _) f) ?_
 rintro _ E ⟨rfl,l⟩
 subst l
 cases q:z6 s with
 | false=>
   simp only[go_sem,q,V2a,Bool.not_true,Bool.not_false]
   refine zn ?_<;>(simp only[go_sem,vl,q,Bool.false_and]<;>try rfl)
 | true=>
   simp only[go_sem,q,V2a,Bool.not_true,Bool.not_false]
   refine zg (c27 p G.1 G.2 _) ?_
   rintro _ E ⟨rfl,l⟩
   subst l
   cases y:rok p with
   | false=>
     simp only[go_sem,y,Bool.not_true,Bool.not_false]
     refine zn ?_<;>(simp only[go_sem,vl,q,y,Bool.true_and]<;>try rfl)
   | true=>
     have K:∀M,qa (h++M) a.t=some (s.tiers.map jH):=λM=>(j.app M).t.rows
     simp only[go_sem,y,Bool.not_true,Bool.not_false,K,zb]
     have N:=f.nt
     refine zI (by decide) (λm T h'=>∃(k:Nat) (out:Int) (L:List Ob),h'=h++(.box 30 (qg s a):: .box 24 [i64 p.1,i64 p.2]::L)/\k<=s.tiers.length/\T 3= .ptr (h.length+1) 0/\T 5=i64 out/\T 20=a.t/\T 21=i64 s.tiers.length/\T 22=i64 k/\QI p (-1) 0 s.tiers=QI p out k (s.tiers.drop k)/\m=s.tiers.length - k) s.tiers.length
      ⟨0, -1,[],rfl,by omega,by simp only[go_sem],by(simp only[go_sem]<;>rfl),by simp only[go_sem],by simp only[go_sem],by(simp only[go_sem]<;>rfl),rfl,rfl⟩ ?_
     rintro m T h' ⟨k,out,L,u,O,t3,t5,o,n,t22,x,rfl⟩
     have H:SlOf h' a.t 2 (s.tiers.map jH):=by rw[u];exact j.t.app _
     simp only[go_sem,n,t22]
     refine ways (λe=>?_) (λe=>?_)
     ·have d:=dlt e
      have A:=H.at (i:=k) (by simpa using d)
      have v:(s.tiers.map jH)[k]? =some (jH s.tiers[k]):=by rw[zz,zj d];rfl
      have z:=kp d
      have I:∀M,(h'++M)[h.length+1]? =some (.box 24 [i64 p.1,i64 p.2]):=λM=>by rw[u];exact ze (by rw[zG rfl];rfl)
      simp only[go_sem,o,t22,A,H.rows,v,z,jH,zb,Int.toNat_natCast,zh]
      refine zg (c18 s.tiers[k].1 100 (f.tiers _ (zy d)).1 ⟨by decide,by decide⟩ _) ?_
      rintro _ E ⟨rfl,l⟩
      subst l
      simp only[go_sem,t3,I]
      refine zg (c20 p _ G (Qz _ _) _) ?_
      rintro _ E ⟨rfl,l⟩
      subst l
      simp only[go_sem]
      have b:QI p out k (s.tiers.drop k)=QI p (if Zd p s.tiers[k] then(k:Int) else out) ((k+1:Nat):Int) (s.tiers.drop (k+1)):=by
       rw[qU d,QI]
       rfl
      refine ways (λD=>?_) (λD=>?_)
      ·have F:Zd p s.tiers[k]=true:=D
       rw[F,if_pos rfl] at b
       simp only[go_sem,t22]
       exact⟨s.tiers.length - (k+1),by omega,k+1,k,L++_,by rw[u];simp only[zt,List.cons_append];rfl,by omega,t3,rfl,o,n,qf (by omega) rfl,by rw[x,b],rfl⟩
      ·have F:Zd p s.tiers[k]=false:=D
       rw[F,if_neg (by simp)] at b
       simp only[go_sem,t22]
       exact⟨s.tiers.length - (k+1),by omega,k+1,out,L++_,by rw[u];simp only[zt,List.cons_append];rfl,by omega,t3,t5,o,n,qf (by omega) rfl,by rw[x,b],rfl⟩
     ·have J:=j9 e
      have C:k=s.tiers.length:=by omega
      subst C
      rw[List.drop_length,QI] at x
      subst u
      simp only[go_sem,t5]
      refine zn ?_<;>(simp only[go_sem,vl,q,y,Bool.true_and,x]<;>try rfl)
