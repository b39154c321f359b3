import Derived.Test.YtjeehgkolepogaaGreatK26
set_option linter.all false
namespace Go.Proofs.YtjeehgkolepogaaGreat.Ax
open Go Go.Proofs
set_option maxRecDepth 100000
attribute [go_sem] v7a vha
def koa{b:Bool}:(b==false)= !b:=by cases b<;>rfl
def c40:js Tryz.prog 25 [] (rat (0,1)):=λh=>by
 refine enterSX Tryz.f25 λB=>?_;exact qt
def vP(id:Int)(e:Ev):Bool:=e.id==id && e.kind==3
def c43(h:List Ob)(i:Nat)(e:Ev)(g:Seg)(hi:h[i]? =some (.box 62 (qU g))):ACalls Tryz.prog 29 [evV e,.ptr i 0] h λr h'=>r=bl (vP g.id e)/\h'=h:=by
 have b:∀M,(h++M)[i]? =some (.box 62 (qU g)):=λM=>zk hi;cases a:e.id==g.id with
 | false=>
   refine enterQX Tryz.f29 λB=>?_;simp only[go_sem,b,a,qv];exact zm (by simp only[go_sem,vP,a,Bool.false_and]<;>try rfl)
 | true=>
   refine enterQX Tryz.f29 λB=>?_;simp only[go_sem,b,a,qv];exact zm (by simp only[go_sem,vP,a,Bool.true_and]<;>try rfl)
def ww(s:Setup)(w:Int)(e:Ev):Bool:=e.worker != w || !km s e
def c74(h:List Ob)(i j:Nat)(e:Ev)(w:Int)(s:Setup)(a:SA)(k:SIn h s a)(hi:h[i]? =some (.box 3 [i64 w]))(f:h[j]? =some (.box 30 (zN s a))):ACalls Tryz.prog 63 [evV e,.ptr i 0,.ptr j 0] h λr h'=>r=bl (ww s w e)/\h'=h:=by
 have d:∀M,(h++M)[i]? =some (.box 3 [i64 w]):=λM=>zk hi;have b:∀M,(h++M)[j]? =some (.box 30 (zN s a)):=λM=>zk f;cases c:e.worker != w with
 | true=>
   refine enterQX Tryz.f63 λB=>?_;simp only[go_sem,d,b,c,koa,Bool.not_true,Bool.not_false];exact zm (by simp only[go_sem,ww,c,Bool.true_or]<;>try rfl)
 | false=>
   refine enterQX Tryz.f63 λB=>?_;simp only[go_sem,d,b,c,koa,Bool.not_true,Bool.not_false];refine qI (c14 _ s a (k.app _) e) ?_;exact zm (by simp only[go_sem,ww,c,Bool.false_or]<;>try rfl)
def c44(h:List Ob)(j:Nat)(n d b:Int)(a:zL)(e:Int)(f:h[j]? =some (.box 60 [i64 n,i64 d,i64 b])):
    ACalls Tryz.prog 31 [.ptr j 0,rat a,i64 e] h λr h'=>r= .tup []/\h'=h.set j (.box 60 (if b=0 then [i64 a.1,i64 a.2,i64 e] else [i64 n,i64 d,i64 b])):=by
 have l:∀M,(h++M)[j]? =some (.box 60 [i64 n,i64 d,i64 b]):=λM=>zk f;have m:∀M o,(h++M).set j o=h.set j o++M:=λM o=>qL f;have k:∀M o,(h.set j o++M)[j]? =some o:=λM o=>zk (zt f)
 have i:∀M o g,(h.set j o++M).set j g=h.set j g++M:=λM o g=>by
  rw[qL (zt f),qB]
 refine enterQX Tryz.f31 (λB=>?_) (⟨_,_,⟨rfl,rfl⟩,qX f rfl⟩);simp only[go_sem,l];refine ways (λc=>?_) (λc=>?_)
 ·have c:b=0:=by simpa using c
  simp only[go_sem,l,m,k,i];exact⟨.tup [],zo,.inr ⟨_,_,rfl,zh,rfl,KeepLt.refl.set rfl rfl,rfl,by rw[if_pos c]⟩⟩
 ·have c:¬ b=0:=by simpa using c
  refine zz ?_;exact⟨.tup [],zo,.inr ⟨h,_,rfl,rfl,rfl,KeepLt.refl,rfl,by rw[if_neg c,jA f]⟩⟩
def avI:AV->Int
 | .v (.int _ n)=>n
 | _=>0
def V5(r:List AV):Ev:=⟨avI (nth r 0),avI (nth r 1),avI (nth r 2),avI (nth r 3),avI (nth r 4),avI (nth r 5),avI (nth r 6),avI (nth r 7),avI (nth r 8),avI (nth r 9),avI (nth r 10)⟩
def wQ:Ev:=⟨0,0,0,0,0,0,0,0,0,0,0⟩
def K1(e:Ev):V5 (evC e)=e:=rfl
def V6(p:Ev->Bool)(l:List Ev):(Z8 (l.map evC) (λr=>p (V5 r))= -1/\∀e∈l,p e=false)∨∃A x R,l=A++x::R/\Z8 (l.map evC) (λr=>p (V5 r))=(A.length:Int)/\p x=true/\∀e∈A,p e=false:=by
 by_cases h:∀e∈l,p e=false
 ·refine .inl ⟨we λj b=>?_,h⟩;rw[List.getElem_map,K1];exact h _ (zx _)
 ·right
  induction l with
  | nil=>exact absurd (λe a=>by cases a) h
  | cons y l i=>
    cases c:p y with
    | true=>exact⟨[],y,l,rfl,ws (rows:=(y::l).map evC) (k:=0) zh (λj b=>zb) c,c,λe a=>by cases a⟩
    | false=>
      obtain⟨A,x,R,rfl,m,d,g⟩:=i (λq=>h λe a=>by
       rcases zK.1 a with rfl|a
       ·exact c
       ·exact q e a)
      have f:∀e∈y::A,p e=false:=λe a=>by
       rcases zK.1 a with rfl|a
       ·exact c
       ·exact g e a
      refine⟨y::A,x,R,rfl,?_,d,f⟩;refine ws zh (λj b=>?_) ?_
      ·rw[List.getElem_map,K1]
       have:(y::(A++x::R))[j]'(by simp at b ⊢;omega)=(y::A)[j]:=by
        have q:((y::A)++x::R)[j]'(by simp at b ⊢;omega)=(y::A)[j]:=List.getElem_append_left b;exact q
       rw[this];exact f _ (zx _)
      ·rw[List.getElem_map,K1]
       have:(y::(A++x::R))[(y::A).length]' zh=x:=by
        rw[List.getElem_of_eq (show y::(A++x::R)=(y::A)++x::R from rfl),List.getElem_append_right (zB _)];simp
       rw[this];exact d
def Zm{n:Nat}:∀l:List Ev,jh n (l.map evC)=true
 | []=>rfl
 | e::l=>by
   rw[List.map_cons,jh,Zm l];rfl
def Ka{p:Ev->Bool}{l:List Ev}(h:∀e∈l,p e=false):l.filter (λe=> !p e)=l:=List.filter_eq_self.2 λe a=>by simp[h e a]
def c73(h:List Ob)(id st:Nat)(l:List Ev)(f:FuncId)(D:List AV)(p:Ev->Bool)(hi:h[id]? =some (qJ l st))(hl:l.length<1048576)(hp:∀e∈l,∀o L,ACalls Tryz.prog f ([evV e]++D) (h.set id o++L) λr h'=>r=bl (p e)/\h'=h.set id o++L):
    ACalls Tryz.prog 62 [.tl id st,.fn (.func f) [] D] h λr h'=>∃l2,h'=h.set id (qJ l2 st)/\(r= .tl id st∨∃n,r= .vw (.tl id st) 11 0 n)/\SlOf h' r 11 ((l.filter λe=> !p e).map evC):=by
 have hex:∃r h',(∃l2,h'=h.set id (qJ l2 st)/\(r=AV.tl id st∨∃n,r= .vw (.tl id st) 11 0 n)/\SlOf h' r 11 ((l.filter λe=> !p e).map evC))/\ResK h h':=
  ⟨.tl id st,_,⟨l.filter λe=> !p e,rfl,.inl rfl,by rw[jR,zt hi,vm,if_pos rfl],λ_=>by rw[vM,zt hi,wH]⟩,qX hi rfl⟩
 have Y:SlOf h (.tl id st) 11 (l.map evC):=⟨by rw[jR,hi,vm,if_pos rfl],λ_=>by rw[vM,hi,wH]⟩
 have S:wN h f D agA (l.map evC) (λr=>p (V5 r)):=λrow G L=>by
  obtain⟨e,he,rfl⟩:=zQ.1 G;have:=hp e he (qJ l st) L;rw[jA hi] at this;exact this
 refine enterSX Tryz.f62 (λB=>?_) (hex);refine zl (c42 h _ f D _ _ (by rw[zc];omega) (λr hr=>by obtain⟨e,_,rfl⟩:=zQ.1 hr;rfl) Y S) ?_;rintro _ i ⟨rfl,e1⟩;subst e1;rcases V6 p l with⟨Q,K⟩|⟨A,x,R,rfl,Q,K,q3⟩
 ·rw[Q];refine zz ?_;exact⟨.tl id st,zo,.inl ⟨l,(jA hi).symm,.inl rfl,by rw[Ka K];exact Y⟩⟩
 ·rw[Q];have O:((A.length:Int)== -1)=false:=zh;simp only[zp,List.length_cons] at hl;have w1:wr ((A.length:Int)+1)=((A.length+1:Nat):Int):=jM zb;have u:((A++[x]).filter λe=> !p e)=A:=by rw[jc,Ka q3];simp[K]
  simp only[go_sem,O,w1]
  refine wp_loop_a ze (λn T h'=>∃(P X d:List Ev) (L:List Ob),P++d=A++x::R/\(P.filter λe=> !p e).length+X.length=P.length/\0<X.length/\h'=i.set id (qJ ((P.filter λe=> !p e)++(X++d)) st)++L/\T 0= .tl id st/\T 1= .fn (.func f) [] D/\T 5=i64 (P.filter λe=> !p e).length/\T 6=i64 P.length/\n=d.length) R.length
   ⟨A++[x],[x],R,[],zh,by rw[u];simp,zh,by rw[u,zJ];exact(jA hi).symm,zo,zo,by(simp only[go_sem]<;>rw[u]),by(simp only[go_sem]<;>simp),rfl⟩ ?_
  rintro n T h' ⟨P,X,d,L,j,U,J,rfl,t0,t1,t5,t6,rfl⟩;have I:∀M o,(i.set id o++M)[id]? =some o:=λM o=>zk (zt hi);have H:=congrArg List.length j;simp only[zp,List.length_cons] at H;simp only[go_sem,t6,t0,I,zc,zp];refine ways (λe=>?_) (λe=>?_)
  ·have m:=dlt e;cases d with
   | nil=>simp at m;omega
   | cons v d=>
   simp only[List.length_cons] at m H;obtain⟨a,q⟩:∃a,a=P.filter λe=> !p e:=⟨_,rfl⟩;rw[<-q] at U t5 m⊢;have hv:v∈A++x::R:=by rw[<-j];simp
   have V:(a++(X++v::d))[P.length]? =some v:=by
    rw[<-zq];exact yf zE
   have Z:((a++(X++v::d)).map evC)[P.length]? =some (evC v):=jz V;have la:(P.length:Int)<((a.length+(X.length+(d.length+1)):Nat):Int):=zb;have W:wr ((P.length:Int)+1)=((P.length+1:Nat):Int):=jM zb;have w3:wr ((a.length:Int)+1)=((a.length+1:Nat):Int):=jM zb;obtain⟨C,s⟩:∃C,C=a++(X++v::d):=⟨_,rfl⟩;rw[<-s] at Z⊢;have k:C.length=a.length+(X.length+(d.length+1)):=by rw[s];simp
   have gN:∀o b,(i.set id o++(L++[b]))[i.length+L.length]? =some b:=λo b=>by
    rw[qa zh];simp
   have sN:∀o b c,(i.set id o++(L++[b])).set (i.length+L.length) c=i.set id o++(L++[c]):=λo b c=>by
    rw[qd _ _ zh,qP,show i.length+L.length - i.length=L.length by omega,qd _ _ (zB _),Nat.sub_self];rfl
   simp only[go_sem,gN,sN,t6,t0,t1,I,Z,la,k,zc,Int.toNat_natCast,zd];refine qI (hp v hv _ _) ?_;have t:(P++[v])++d=A++x::R:=(by rw[<-j];simp);refine ways (λz=>?_) (λz=>?_)
   ·have z:p v=false:=(by simpa using z);have g:((P++[v]).filter λe=> !p e)=a++[v]:=(by rw[jc, <-q];simp[z]);cases X with
    | nil=>simp at J
    | cons x0 X=>
    have E:C=a++x0::(X++v::d):=s;have rb:(C.map evC)[a.length]? =some (evC x0):=jz (by rw[E];exact yf rfl)
    have N:∀M o w,(i.set id o++M).set id w=i.set id w++M:=λM o w=>by
     rw[qL (zt hi),qB]
    have lb:(a.length:Int)<((a.length+(X.length+1+(d.length+1)):Nat):Int):=zb
    have F:(C.map evC).set a.length (evC v)=(a++v::(X++v::d)).map evC:=by
     rw[<-List.map_set,E,qd _ _ (zB _),Nat.sub_self];rfl
    have hq:(a++[v])++((X++[v])++d)=a++v::(X++v::d):=zh;simp only[go_sem,gN,N,rb,lb,k,zc,Int.toNat_natCast,zd,t0,t1,t5,t6,I,W,w3,F];exact⟨d.length,zh,P++[v],X++[v],d,L++[.box 55 (evC v)],t,by rw[g];simp at U ⊢;omega,zh,by rw[g,hq],by rw[g];exact jT zh,jT zh,rfl⟩
   ·have z:p v=true:=(by simpa using z);have g:((P++[v]).filter λe=> !p e)=a:=(by rw[jc, <-q];simp[z]);simp only[go_sem,t6,W];exact⟨d.length,zh,P++[v],X++[v],d,L++[.box 55 (evC v)],t,by rw[g];simp;omega,zh,by rw[g,s];simp,t0,t1,by rw[g];exact t5,jT zh,rfl⟩
  ·have ξ:=jO e;have hR:d=[]:=zy zb;subst hR;rw[zJ] at j;subst j;obtain⟨a,q⟩:∃a,a=(A++x::R).filter λe=> !p e:=⟨_,rfl⟩;rw[<-q] at t5 U⊢;have f0:(0:Int)<=(a.length:Int):=zb;have f1:(a.length:Int)<=((a.length+X.length:Nat):Int):=zb;have f2:a.length+X.length - a.length=X.length:=zb
   have N:∀M o w,(i.set id o++M).set id w=i.set id w++M:=λM o w=>by
    rw[qL (zt hi),qB]
   have hz:List.take a.length ((a++X).map evC)++(List.replicate X.length ([i64 0,i64 0,i64 0,i64 0,i64 0,i64 0,i64 0,i64 0,i64 0,i64 0,i64 0]:List AV)++List.drop (a.length+X.length) ((a++X).map evC))=(a++List.replicate X.length wQ).map evC:=by
    rw[List.drop_of_length_le zh,zJ,zD,zD,List.take_append_of_le_length zh,List.take_of_length_le zh,List.map_replicate];rfl
   have f3:((a.length:Nat):Int)<=((a.length+X.length:Nat):Int):=f1;simp only[go_sem,t0,t5,I,N,hz,zc,zp,qu,f0,f1,f2,Int.toNat_natCast,true_and,or_true,Int.le_refl,zB,Option.bind_some,qu,List.all_replicate,ite_self,Nat.sub_zero];have m:=(zj.1 hi).1;refine⟨.vw (.tl id st) 11 0 a.length,zo,.inr ⟨i.set id _,L,rfl,zh,by simp[AV.lt,m],KeepLt.refl.set rfl (Zm _),⟨_,rfl,.inr ⟨_,rfl⟩,?_⟩⟩⟩;have y:=zt (b:=qJ (a++List.replicate X.length wQ) st) hi;refine⟨?_,λ_=>?_⟩
   ·rw[xX,jR,y,vm,if_pos rfl,Option.bind_some,if_pos ⟨zh,.inr (by rw[vM,y,wH])⟩];simp
   ·rw[JO,vM,y,wH];rfl
def yqa(f:FuncId)(b:List AV):js Tryz.prog 62 [.v (.slice none 0 0),.fn (.func f) [] b] (.v (.slice none 0 0)):=λh=>by
 refine enterSX Tryz.f62 λB=>?_;refine qx (c42 h _ f b [] (λ_=>false) zh (λr a=>by cases a) ⟨rfl,λh=>absurd rfl h⟩ (λr a=>by cases a)) ?_;have:Z8 [] (λ_=>false)= -1:=rfl;simp only[go_sem,this];exact qt
def yZ(s:Setup)(w:Int)(l:List Ev):List Ev:=(zS l).filter λe=> !ww s w e
def c41(h:List Ob)(s:Setup)(a:SA)(k:SIn h s a)(x:AV)(l:List Ev)(w:Int)(u:SlOf h x 11 (l.map evC))(A:l.length<1048576):
    ACalls Tryz.prog 26 [qE s a,x,i64 w] h λr h'=>∃L,h'=h++L/\NoRes L/\New h 11 r ((yZ s w l).map evC) L:=by
 have hex:∃r h',(∃L,h'=h++L/\NoRes L/\New h 11 r ((yZ s w l).map evC) L)/\ResK h h':=
  ⟨.sl 11 _,_,⟨[],rfl,kR,λ_ _=>⟨rfl,λ_=>rfl⟩⟩,jp⟩
 refine enterQX Tryz.f26 (λB=>?_) (hex);simp only[go_sem,k.w.one,k.e.one,k.c.one,k.g.one,k.r.one,k.t.one];refine zl (c57 _ x l (u.app _) zb) ?_;have p:=jl l;rintro r C (⟨rfl,rfl,rfl⟩|⟨rfl,rfl⟩)
 ·refine zz ?_;refine zl (yqa _ _ _) ?_;rintro _ z ⟨rfl,d⟩;subst d;refine zz ?_;exact⟨.v (.slice none 0 0),zo,.inl ⟨_,rfl,zA rfl (zW rfl),λ_ _=>⟨rfl,λh=>absurd rfl h⟩⟩⟩
 ·refine zz ?_;have y:(h++[.box 30 (zN s a),.box 3 [i64 w],qJ (zS l) 1])[h.length+2]? =some (qJ (zS l) 1):=by rw[qa rfl];rfl
  refine zl (c73 _ (h.length+2) 1 (zS l) 63 _ (ww s w) y zb λe D o L=>?_) ?_
  ·have b:(h++[.box 30 (zN s a),.box 3 [i64 w],qJ (zS l) 1]).set (h.length+2) o=h++[.box 30 (zN s a),.box 3 [i64 w],o]:=by
    rw[qd _ _ zb,show h.length+2 - h.length=2 by omega];rfl
   rw[b,zq];refine c74 _ _ _ e w s a (k.app _) ?_ ?_
   ·rw[qa rfl];rfl
   ·rw[qr rfl];rfl
  ·rintro r z ⟨l2,rfl,q,i⟩
   have b:(h++[.box 30 (zN s a),.box 3 [i64 w],qJ (zS l) 1]).set (h.length+2) (qJ l2 1)=h++[.box 30 (zN s a),.box 3 [i64 w],qJ l2 1]:=by
    rw[qd _ _ zb,show h.length+2 - h.length=2 by omega];rfl
   rw[b] at i⊢;refine zz ?_;refine⟨r,zo,.inl ⟨_,rfl,zA rfl (zA rfl (zW rfl)),λf j=>?_⟩⟩
   have d:(f++[.box 30 (zN s a),.box 3 [i64 w],qJ l2 1])[h.length+2]? =(h++[.box 30 (zN s a),.box 3 [i64 w],qJ l2 1])[h.length+2]? :=by
    rw[qa j.symm,qa rfl]
   have m:zI (f++[.box 30 (zN s a),.box 3 [i64 w],qJ l2 1]) r=zI (h++[.box 30 (zN s a),.box 3 [i64 w],qJ l2 1]) r/\eOf (f++[.box 30 (zN s a),.box 3 [i64 w],qJ l2 1]) r=eOf (h++[.box 30 (zN s a),.box 3 [i64 w],qJ l2 1]) r:=by
    rcases q with rfl|⟨n,rfl⟩
    ·rw[jR,jR,vM,vM,d];exact⟨rfl,rfl⟩
    ·rw[xX,xX,JO,JO,jR,jR,vM,vM,d];exact⟨rfl,rfl⟩
   exact⟨by rw[m.1];exact i.rows,λh=>by rw[m.2];exact i.ee h⟩
def kx(w:Int)(e:Ev):Bool:=e.kind==7 && kT e.at_==w
def xN(l:List Ev)(w:Int):Nat:=(l.filter (kx w)).length
def c45(h:List Ob)(x:AV)(l:List Ev)(w:Int)(s:SlOf h x 11 (l.map evC))(E:l.length<1048576):
    ACalls Tryz.prog 34 [x,i64 w] h λr h'=>r=i64 (xN l w)/\h'=h:=by
 have u:∀M,zI (h++M) x=some (l.map evC):=λM=>(s.app M).rows;refine enterQX Tryz.f34 λB=>?_;simp only[go_sem,s.rows,u,zc]
 refine wp_loop_a ze (λm T h'=>∃(k:Nat) (L:List Ob),h'=h++L/\k<=l.length/\T 1=i64 w/\T 4=i64 (xN (l.take k) w)/\T 7=x/\T 8=i64 l.length/\T 9=i64 k/\m=l.length - k) l.length
  ⟨0,[],zh,zb,zo,by(simp only[go_sem]<;>rfl),zo,zo,by(simp only[go_sem]<;>rfl),rfl⟩ ?_
 rintro m T h' ⟨k,L,rfl,F,t1,t4,p,q,t9,rfl⟩;simp only[go_sem,q,t9];refine ways (λe=>?_) (λe=>?_)
 ·have f:=dlt e;have n:=(s.app L).at (i:=k) (by simpa using f);have d:(l.map evC)[k]? =some (evC l[k]):=jz (zg f);have j:=jr f;obtain⟨v,y⟩:∃v,v=l[k]:=⟨_,rfl⟩;rw[<-y] at d;have G:(l.take k).length=k:=zE
  have C:xN (l.take k) w<=k:=by
   have:=qj (kx w) (l.take k);unfold xN;omega
  have a:xN (l.take (k+1)) w=xN (l.take k) w+(if kx w v then 1 else 0):=by
   unfold xN;rw[<-zG f,jc,zp, <-y];cases h:kx w v<;>simp[h]
  have gN:∀b,(h++(L++[b]))[h.length+L.length]? =some b:=λb=>by
   rw[qa rfl];simp
  have A:∀b c,(h++(L++[b])).set (h.length+L.length) c=h++(L++[c]):=λb c=>by
   rw[qd _ _ zh,show h.length+L.length - h.length=L.length by omega,qd _ _ (zB _),Nat.sub_self];rfl
  by_cases z:v.kind=7
  ·have g:(v.kind==7)=true:=(by simpa using z);simp only[go_sem,p,t9,t1,u,n,d,j,gN,A,zc,Int.toNat_natCast,zd,g,qv];refine qx (c17 v.at_ _) ?_;simp only[go_sem,t1];refine ways (λt=>?_) (λt=>?_)
   ·have o:kx w v=true:=(by simp only[kx,g];exact t);rw[o,if_pos rfl] at a;simp only[go_sem,t4,t9];exact⟨l.length - (k+1),zb,k+1,L++[.box 55 (evC v)],rfl,zb,t1,by rw[a];exact qh zb rfl,p,q,qh zb rfl,rfl⟩
   ·have o:kx w v=false:=(by simp only[kx,g];exact t);rw[o,if_neg zh] at a;simp only[go_sem,t9];exact⟨l.length - (k+1),zb,k+1,L++[.box 55 (evC v)],rfl,zb,t1,by rw[a];exact t4,p,q,qh zb rfl,rfl⟩
  ·have g:(v.kind==7)=false:=(by simpa using z);have o:kx w v=false:=(by simp only[kx,g];rfl);rw[o,if_neg zh] at a;simp only[go_sem,p,t9,u,n,d,j,gN,A,zc,Int.toNat_natCast,zd,g,qv];exact⟨l.length - (k+1),zb,k+1,L++[.box 55 (evC v)],rfl,zb,t1,by rw[a];exact t4,q,qh zb rfl,rfl⟩
 ·have D:=jO e;have:k=l.length:=zb;subst this;rw[qR] at t4;simp only[go_sem,t4];exact qt
attribute [go_sem] qMa xSa
def c62(n:Int):js Tryz.prog 68 [i64 n] (rat (n,1)):=λh=>by
 refine enterSX Tryz.f68 λB=>?_;exact qt
def c61(a b:zL)(e:qp a)(d:qp b):js Tryz.prog 67 [rat a,rat b] (vU (jB [a,b])):=λh=>by
 refine enterSX Tryz.f67 λB=>?_
 refine zl (c23 _ _ [a,b] (λp c=>by
  rcases zK.1 c with rfl|c
  ·exact e
  ·rw[qA.1 c];exact d) zh ⟨by simp only[go_sem,List.map_cons,List.map_nil,qy],λ_=>zo⟩) ?_
 rintro _ g ⟨rfl,f⟩;subst f;refine zz ?_;exact qt
def c60(h:List Ob)(j:Nat)(d:Int)(f:FuncId)(a b:zL)(v:zL × Int)(g:h[j]? =some (.box 34 [i64 d]))(l:∀L,ACalls Tryz.prog f [rat a,rat b] (h++L) λr h'=>r=vU v/\h'=h++L):
    ACalls Tryz.prog 66 [.fn (.func f) [] [],rat a,rat b,.ptr j 0] h λr h'=>r=rat (if d=0 then v.1 else(0,0))/\h'=h.set j (.box 34 [i64 (if d=0 then v.2 else d)]):=by
 have i:∀M,(h++M)[j]? =some (.box 34 [i64 d]):=λM=>zk g;have m:∀M o,(h++M).set j o=h.set j o++M:=λM o=>qL g;refine enterQX Tryz.f66 (λB=>?_) (⟨_,_,⟨rfl,rfl⟩,qX g rfl⟩);simp only[go_sem,i];refine ways (λe=>?_) (λe=>?_)
 ·have e:¬ d=0:=by simpa using e
  simp only[go_sem,i];exact⟨rat (0,0),zo,.inr ⟨h,_,rfl,rfl,rfl,KeepLt.refl,by rw[if_neg e],by rw[if_neg e,jA g]⟩⟩
 ·have e:d=0:=by simpa using e
  refine zz ?_;refine qx (l _) ?_;have gN:∀o M n,(h.set j o++M)[h.length+n]? =M[n]? :=λo M n=>qa zh
  have k:∀o M n c,(h.set j o++M).set (h.length+n) c=h.set j o++M.set n c:=λo M n c=>by
   rw[qd _ _ zh,qP,show h.length+n - h.length=n by omega]
  simp only[go_sem,i,m,gN,k,List.set_cons_succ,List.set_cons_zero,List.getElem?_cons_succ,List.getElem?_cons_zero];exact⟨rat v.1,by simp only[go_sem,gN,List.getElem?_cons_succ,List.getElem?_cons_zero],.inr ⟨h.set j _,_,rfl,zh,rfl,KeepLt.refl.set rfl rfl,by rw[if_pos e],by rw[if_pos e]⟩⟩
attribute [go_sem] qNa xWa
def QA(p:zL)(t:yH):Bool:= !JR p (make t.1 100).1
def Zw(p:zL):Int->Int->List yH->Int
 | out,_,[]=>out
 | out,i,t::l=>Zw p (if QA p t then i else out) (i+1) l
def Zx(s:Setup)(p:zL):Int:=if zX s && rok p then Zw p (-1) 0 s.tiers else -1
def c26(h:List Ob)(s:Setup)(a:SA)(j:SIn h s a)(f:SFit s)(p:zL)(F:qp p):
    ACalls Tryz.prog 9 [qE s a,rat p] h λr h'=>r=i64 (Zx s p)/\h'=h:=by
 refine enterQX Tryz.f9 λB=>?_;simp only[go_sem,j.w.one,j.e.one,j.c.one,j.g.one,j.r.one,j.t.one];refine zl (c16 _ s a (j.app _) f) ?_;rintro _ G ⟨rfl,q⟩;subst q;cases v:zX s with
 | false=>
   simp only[go_sem,v,koa,Bool.not_true,Bool.not_false];exact zm (by simp only[go_sem,Zx,v,Bool.false_and]<;>try rfl)
 | true=>
   simp only[go_sem,v,koa,Bool.not_true,Bool.not_false];refine zl (c27 p F.1 F.2 _) ?_;rintro _ G ⟨rfl,q⟩;subst q;cases x:rok p with
   | false=>
     simp only[go_sem,x,Bool.not_true,Bool.not_false];exact zm (by simp only[go_sem,Zx,v,x,Bool.true_and]<;>try rfl)
   | true=>
     have J:∀M,zI (h++M) a.t=some (s.tiers.map qy):=λM=>(j.app M).t.rows;simp only[go_sem,x,Bool.not_true,Bool.not_false,J,zc];have O:=f.nt
     refine wp_loop_a ze (λm T h'=>∃(k:Nat) (out:Int) (L:List Ob),h'=h++(.box 30 (zN s a):: .box 24 [i64 p.1,i64 p.2]::L)/\k<=s.tiers.length/\T 3= .ptr (h.length+1) 0/\T 5=i64 out/\T 20=a.t/\T 21=i64 s.tiers.length/\T 22=i64 k/\Zw p (-1) 0 s.tiers=Zw p out k (s.tiers.drop k)/\m=s.tiers.length - k) s.tiers.length
      ⟨0, -1,[],rfl,zb,zo,by(simp only[go_sem]<;>rfl),zo,zo,by(simp only[go_sem]<;>rfl),rfl,rfl⟩ ?_
     rintro m T h' ⟨k,out,L,o,N,t3,t5,n,l,t22,y,rfl⟩;have H:SlOf h' a.t 2 (s.tiers.map qy):=(by rw[o];exact j.t.app _);simp only[go_sem,l,t22];refine ways (λe=>?_) (λe=>?_)
     ·have d:=dlt e;have D:=H.at (i:=k) (by simpa using d);have u:(s.tiers.map qy)[k]? =some (qy s.tiers[k]):=(by rw[zw,zg d];rfl);have z:=jr d;have K:∀M,(h'++M)[h.length+1]? =some (.box 24 [i64 p.1,i64 p.2]):=λM=>(by rw[o];exact zk (by rw[qa rfl];rfl));simp only[go_sem,n,t22,D,H.rows,u,z,qy,zc,Int.toNat_natCast,zd];refine zl (c18 s.tiers[k].1 100 (f.tiers _ (zx d)).1 ⟨ze,ze⟩ _) ?_;rintro _ G ⟨rfl,q⟩;subst q;simp only[go_sem,t3,K];refine qI (c20 p _ F (vD _ _) _) ?_
      have b:Zw p out k (s.tiers.drop k)=Zw p (if QA p s.tiers[k] then(k:Int) else out) ((k+1:Nat):Int) (s.tiers.drop (k+1)):=by
       rw[zP d,Zw];rfl
      refine ways (λE=>?_) (λE=>?_)
      ·have C:QA p s.tiers[k]=true:=E;rw[C,if_pos rfl] at b;simp only[go_sem,t22];exact⟨s.tiers.length - (k+1),zb,k+1,k,L++_,by rw[o];simp only[zq,List.cons_append];rfl,zb,t3,rfl,n,l,qh zb rfl,by rw[y,b],rfl⟩
      ·have C:QA p s.tiers[k]=false:=E;rw[C,if_neg zh] at b;simp only[go_sem,t22];exact⟨s.tiers.length - (k+1),zb,k+1,out,L++_,by rw[o];simp only[zq,List.cons_append];rfl,zb,t3,t5,n,l,qh zb rfl,by rw[y,b],rfl⟩
     ·have I:=jO e;have A:k=s.tiers.length:=zb;subst A;rw[List.drop_length,Zw] at y;subst o;simp only[go_sem,t5];exact zm (by simp only[go_sem,Zx,v,x,Bool.true_and,y]<;>try rfl)
