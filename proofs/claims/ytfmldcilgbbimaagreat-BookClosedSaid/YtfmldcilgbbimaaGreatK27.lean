/-
  Joined.
-/
import Derived.Test.YtfmldcilgbbimaaGreatK20
set_option linter.unusedSimpArgs false
set_option linter.unusedVariables false
namespace Go.Proofs.YtfmldcilgbbimaaGreat.Ax
open Go Go.Proofs
set_option maxRecDepth 100000
attribute [go_sem] XIa Kaa
theorem Jwa {b:Bool}:(b==false)= !b:=by cases b<;>rfl
theorem c40:ji Tryz.prog 109 [] (rat (0,1)):=λh=>by
 refine zf Tryz.f109 [.cell 0 24] 2 rfl rfl rfl rfl rfl rfl (by decide) (⟨_,_,⟨rfl,rfl⟩,.refl⟩) λB=>?_
 simp only[go_sem]
 (first | refine zd ?_ | refine ze ?_ (by rfl))<;>(simp only[go_sem]<;>try rfl)
def wh (id:Int) (e:Ev):Bool:=e.id==id && e.kind==3
theorem c43 (h:List Ob) (i:Nat) (e:Ev) (g:Seg) (c:h[i]? =some (.box 137 (jo g))):ACalls Tryz.prog 111 [evV e,.ptr i 0] h λr h'=>r=bl (wh g.id e)/\h'=h:=by
 have b:∀M,(h++M)[i]? =some (.box 137 (jo g)):=λM=>zb c
 cases a:e.id==g.id with
 | false=>
   refine zf Tryz.f111 [.tmp 3] 14 rfl rfl rfl rfl rfl rfl (by decide) (⟨_,_,⟨rfl,rfl⟩,.refl⟩) λB=>?_
   simp only[go_sem,b,a,zJ]
   (first | refine zd ?_ | refine ze ?_ (by rfl))<;>(simp only[go_sem,wh,a,Bool.false_and]<;>try rfl)
 | true=>
   refine zf Tryz.f111 [.tmp 3] 14 rfl rfl rfl rfl rfl rfl (by decide) (⟨_,_,⟨rfl,rfl⟩,.refl⟩) λB=>?_
   simp only[go_sem,b,a,zJ]
   (first | refine zd ?_ | refine ze ?_ (by rfl))<;>(simp only[go_sem,wh,a,Bool.true_and]<;>try rfl)
def Zv (s:Setup) (w:Int) (e:Ev):Bool:=e.worker != w || !ko s e
theorem c74 (h:List Ob) (i j:Nat) (e:Ev) (w:Int) (s:Setup) (a:SA) (k:SIn h s a) (f:h[i]? =some (.box 3 [i64 w])) (l:h[j]? =some (.box 30 (zr s a))):ACalls Tryz.prog 178 [evV e,.ptr i 0,.ptr j 0] h λr h'=>r=bl (Zv s w e)/\h'=h:=by
 have d:∀M,(h++M)[i]? =some (.box 3 [i64 w]):=λM=>zb f
 have b:∀M,(h++M)[j]? =some (.box 30 (zr s a)):=λM=>zb l
 cases c:e.worker != w with
 | true=>
   refine zf Tryz.f178 [.tmp 4] 15 rfl rfl rfl rfl rfl rfl (by decide) (⟨_,_,⟨rfl,rfl⟩,.refl⟩) λB=>?_
   simp only[go_sem,d,b,c,Jwa,Bool.not_true,Bool.not_false]
   (first | refine zd ?_ | refine ze ?_ (by rfl))<;>(simp only[go_sem,Zv,c,Bool.true_or]<;>try rfl)
 | false=>
   refine zf Tryz.f178 [.tmp 4] 15 rfl rfl rfl rfl rfl rfl (by decide) (⟨_,_,⟨rfl,rfl⟩,.refl⟩) λB=>?_
   simp only[go_sem,d,b,c,Jwa,Bool.not_true,Bool.not_false]
   refine zc (c14 _ s a (k.app _) e) ?_
   rintro _ m ⟨rfl,g⟩
   subst g
   simp only[go_sem]
   (first | refine zd ?_ | refine ze ?_ (by rfl))<;>(simp only[go_sem,Zv,c,Bool.false_or]<;>try rfl)
theorem c44 (h:List Ob) (j:Nat) (n d b:Int) (a:zF) (e:Int) (f:h[j]? =some (.box 191 [i64 n,i64 d,i64 b])):
  ACalls Tryz.prog 113 [.ptr j 0,rat a,i64 e] h λr h'=>r= .tup []/\h'=h.set j (.box 191 (if b=0 then [i64 a.1,i64 a.2,i64 e] else [i64 n,i64 d,i64 b])):=by
 have l:∀M,(h++M)[j]? =some (.box 191 [i64 n,i64 d,i64 b]):=λM=>zb f
 have m:∀M o,(h++M).set j o=h.set j o++M:=λM o=>qd f
 have i:∀M o,(h.set j o++M)[j]? =some o:=λM o=>zb (zh f)
 have k:∀M o g,(h.set j o++M).set j g=h.set j g++M:=λM o g=>by
  rw[qd (zh f),List.set_set]
 refine zf Tryz.f113 [] 19 rfl rfl rfl rfl rfl rfl (by decide) (⟨_,_,⟨rfl,rfl⟩,zC f rfl⟩) λB=>?_
 simp only[go_sem,l]
 refine ways (λc=>?_) (λc=>?_)
 ·have c:b=0:=by simpa using c
  simp only[go_sem,l,m,i,k]
  exact ⟨.tup [],by simp only[go_sem],.inr ⟨_,_,rfl,by simp,rfl,KeepLt.refl.set rfl rfl,rfl,by rw[if_pos c]⟩⟩
 ·have c:¬ b=0:=by simpa using c
  simp only[go_sem]
  exact ⟨.tup [],by simp only[go_sem],.inr ⟨h,_,rfl,rfl,rfl,KeepLt.refl,rfl,by rw[if_neg c,zT f]⟩⟩
set_option maxRecDepth 100000
def avI:AV->Int
 | .v (.int _ n)=>n
 | _=>0
def KB (r:List AV):Ev:=⟨avI (nth r 0),avI (nth r 1),avI (nth r 2),avI (nth r 3),avI (nth r 4),avI (nth r 5),avI (nth r 6),avI (nth r 7),avI (nth r 8),avI (nth r 9),avI (nth r 10)⟩
def xXa:Ev:=⟨0,0,0,0,0,0,0,0,0,0,0⟩
theorem zJa (e:Ev):KB (evC e)=e:=rfl
theorem Ql (p:Ev->Bool) (l:List Ev):(Z4 (l.map evC) (λr=>p (KB r))= -1/\∀e∈l,p e=false)∨∃A x R,l=A++x::R/\Z4 (l.map evC) (λr=>p (KB r))=(A.length:Int)/\p x=true/\∀e∈A,p e=false:=by
 by_cases h:∀e∈l,p e=false
 ·refine .inl ⟨vt λj b=>?_,h⟩
  rw[List.getElem_map,zJa]
  exact h _ (List.getElem_mem _)
 ·right
  induction l with
  | nil=>exact absurd (λe a=>by cases a) h
  | cons y l g=>
    cases c:p y with
    | true=>exact ⟨[],y,l,rfl,kY (rows:=(y::l).map evC) (k:=0) (by simp) (λj b=>by omega) c,c,λe a=>by cases a⟩
    | false=>
      obtain ⟨A,x,R,rfl,m,d,i⟩:=g (λq=>h λe a=>by
       rcases List.mem_cons.1 a with rfl | a
       ·exact c
       ·exact q e a)
      have f:∀e∈y::A,p e=false:=λe a=>by
       rcases List.mem_cons.1 a with rfl | a
       ·exact c
       ·exact i e a
      refine ⟨y::A,x,R,rfl,?_,d,f⟩
      refine kY (by simp) (λj b=>?_) ?_
      ·rw[List.getElem_map,zJa]
       have:(y::(A++x::R))[j]'(by simp at b ⊢;omega)=(y::A)[j]:=by
        have q:((y::A)++x::R)[j]'(by simp at b ⊢;omega)=(y::A)[j]:=List.getElem_append_left b
        exact q
       rw[this]
       exact f _ (List.getElem_mem _)
      ·rw[List.getElem_map,zJa]
       have:(y::(A++x::R))[(y::A).length]'(by simp)=x:=by
        rw[List.getElem_of_eq (show y::(A++x::R)=(y::A)++x::R from rfl),List.getElem_append_right (Nat.le_refl _)]
        simp
       rw[this]
       exact d
theorem vz {n:Nat}:∀l:List Ev,zU n (l.map evC)=true
 | []=>rfl
 | e::l=>by
   rw[List.map_cons,zU,vz l]
   rfl
theorem YM {p:Ev->Bool} {l:List Ev} (h:∀e∈l,p e=false):l.filter (λe=> !p e)=l:=List.filter_eq_self.2 λe a=>by simp[h e a]
theorem c73 (h:List Ob) (id st:Nat) (l:List Ev) (f:FuncId) (cs:List AV) (p:Ev->Bool) (j:h[id]? =some (qb l st)) (hl:l.length<1048576) (Z:∀e∈l,∀o L,ACalls Tryz.prog f ([evV e]++cs) (h.set id o++L) λr h'=>r=bl (p e)/\h'=h.set id o++L):
  ACalls Tryz.prog 48 [.tl id st,.fn (.func f) [] cs] h λr h'=>∃l2,h'=h.set id (qb l2 st)/\(r= .tl id st∨∃n,r= .vw (.tl id st) 11 0 n)/\SlOf h' r 11 ((l.filter λe=> !p e).map evC):=by
 have hex:∃r h',(∃l2,h'=h.set id (qb l2 st)/\(r=AV.tl id st∨∃n,r= .vw (.tl id st) 11 0 n)/\SlOf h' r 11 ((l.filter λe=> !p e).map evC))/\ResK h h':=
  ⟨.tl id st,_,⟨l.filter λe=> !p e,rfl,.inl rfl,by rw[zX,zh j,jV,if_pos rfl],λ_=>by rw[qE,zh j,km]⟩,zC j rfl⟩
 have Y:SlOf h (.tl id st) 11 (l.map evC):=⟨by rw[zX,j,jV,if_pos rfl],λ_=>by rw[qE,j,km]⟩
 have Q:wJ h f cs agA (l.map evC) (λr=>p (KB r)):=λrow H L=>by
  obtain ⟨e,he,rfl⟩:=List.mem_map.1 H
  have:=Z e he (qb l st) L
  rw[zT j] at this
  exact this
 refine zf Tryz.f48 [.tmp 4] 42 rfl rfl rfl rfl rfl rfl (by decide) (hex) λB=>?_
 simp only[go_sem]
 refine zc (c42 h _ f cs _ _ (by rw[List.length_map];omega) (λr hr=>by obtain ⟨e,_,rfl⟩:=List.mem_map.1 hr;rfl) Y Q) ?_
 rintro _ i ⟨rfl,e1⟩
 subst e1
 rcases Ql p l with ⟨J,O⟩ | ⟨A,x,R,rfl,J,O,q3⟩
 ·rw[J]
  simp only[go_sem]
  exact ⟨.tl id st,by simp only[go_sem],.inl ⟨l,(zT j).symm,.inl rfl,by rw[YM O];exact Y⟩⟩
 ·rw[J]
  have V:((A.length:Int)== -1)=false:=by simp
  simp only[List.length_append,List.length_cons] at hl
  have w1:wr ((A.length:Int)+1)=((A.length+1:Nat):Int):=jk (by omega)
  have y:((A++[x]).filter λe=> !p e)=A:=by rw[List.filter_append,YM q3];simp[O]
  simp only[go_sem,V,w1]
  refine zj (by decide) (λn T h'=>∃(P X d:List Ev) (L:List Ob),P++d=A++x::R/\(P.filter λe=> !p e).length+X.length=P.length/\0<X.length/\h'=i.set id (qb ((P.filter λe=> !p e)++(X++d)) st)++L/\T 0= .tl id st/\T 1= .fn (.func f) [] cs/\T 5=i64 (P.filter λe=> !p e).length/\T 6=i64 P.length/\n=d.length) R.length
   ⟨A++[x],[x],R,[],by simp,by rw[y];simp,by simp,by rw[y,List.append_nil];exact (zT j).symm,by simp only[go_sem],by simp only[go_sem],by (simp only[go_sem]<;>rw[y]),by (simp only[go_sem]<;>simp),rfl⟩ ?_
  rintro n T h' ⟨P,X,d,L,q,U,K,rfl,t0,t1,t5,t6,rfl⟩
  have I:∀M o,(i.set id o++M)[id]? =some o:=λM o=>zb (zh j)
  have E:=congrArg List.length q
  simp only[List.length_append,List.length_cons] at E
  simp only[go_sem,t6,t0,I,List.length_map,List.length_append]
  refine ways (λe=>?_) (λe=>?_)
  ·have m:=dlt e
   cases d with
   | nil=>simp at m;omega
   | cons v d=>
   simp only[List.length_cons] at m E
   obtain ⟨a,k⟩:∃a,a=P.filter λe=> !p e:=⟨_,rfl⟩
   rw[<-k] at U t5 m⊢
   have hv:v∈A++x::R:=by rw[<-q];simp
   have S:(a++(X++v::d))[P.length]? =some v:=by
    rw[<-List.append_assoc]
    exact yL (by simp;omega)
   have ra:((a++(X++v::d)).map evC)[P.length]? =some (evC v):=qX S
   have la:(P.length:Int)<((a.length+(X.length+(d.length+1)):Nat):Int):=by omega
   have W:wr ((P.length:Int)+1)=((P.length+1:Nat):Int):=jk (by omega)
   have w3:wr ((a.length:Int)+1)=((a.length+1:Nat):Int):=jk (by omega)
   obtain ⟨D,t⟩:∃D,D=a++(X++v::d):=⟨_,rfl⟩
   rw[<-t] at ra⊢
   have s:D.length=a.length+(X.length+(d.length+1)):=by rw[t];simp
   have gN:∀o b,(i.set id o++(L++[b]))[i.length+L.length]? =some b:=λo b=>by
    rw[zm (by simp)]
    simp
   have sN:∀o b c,(i.set id o++(L++[b])).set (i.length+L.length) c=i.set id o++(L++[c]):=λo b c=>by
    rw[List.set_append_right _ _ (by simp),List.length_set,show i.length+L.length - i.length=L.length by omega,List.set_append_right _ _ (Nat.le_refl _),Nat.sub_self]
    rfl
   simp only[go_sem,gN,sN,t6,t0,t1,I,ra,la,s,List.length_map,Int.toNat_natCast,Int.natCast_nonneg]
   refine zc (Z v hv _ _) ?_
   rintro _ h3 ⟨rfl,e3⟩
   subst e3
   simp only[go_sem]
   have u:(P++[v])++d=A++x::R:=by rw[<-q];simp
   refine ways (λz=>?_) (λz=>?_)
   ·have z:p v=false:=by simpa using z
    have g:((P++[v]).filter λe=> !p e)=a++[v]:=by rw[List.filter_append, <-k];simp[z]
    cases X with
    | nil=>simp at K
    | cons x0 X=>
    have F:D=a++x0::(X++v::d):=t
    have rb:(D.map evC)[a.length]? =some (evC x0):=qX (by rw[F];exact yL rfl)
    have N:∀M o w,(i.set id o++M).set id w=i.set id w++M:=λM o w=>by
     rw[qd (zh j),List.set_set]
    have lb:(a.length:Int)<((a.length+(X.length+1+(d.length+1)):Nat):Int):=by omega
    have G:(D.map evC).set a.length (evC v)=(a++v::(X++v::d)).map evC:=by
     rw[<-List.map_set,F,List.set_append_right _ _ (Nat.le_refl _),Nat.sub_self]
     rfl
    have hq:(a++[v])++((X++[v])++d)=a++v::(X++v::d):=by simp
    simp only[go_sem,gN,N,rb,lb,s,List.length_map,Int.toNat_natCast,Int.natCast_nonneg,t0,t1,t5,t6,I,W,w3,G]
    exact ⟨d.length,by simp,P++[v],X++[v],d,L++[.box 73 (evC v)],u,by rw[g];simp at U ⊢;omega,by simp,by rw[g,hq],by rw[g];exact qN (by simp),qN (by simp),rfl⟩
   ·have z:p v=true:=by simpa using z
    have g:((P++[v]).filter λe=> !p e)=a:=by rw[List.filter_append, <-k];simp[z]
    simp only[go_sem,t6,W]
    exact ⟨d.length,by simp,P++[v],X++[v],d,L++[.box 73 (evC v)],u,by rw[g];simp;omega,by simp,by rw[g,t];simp,t0,t1,by rw[g];exact t5,qN (by simp),rfl⟩
  ·have ψ:=qU e
   have hR:d=[]:=List.eq_nil_of_length_eq_zero (by omega)
   subst hR
   rw[List.append_nil] at q
   subst q
   obtain ⟨a,k⟩:∃a,a=(A++x::R).filter λe=> !p e:=⟨_,rfl⟩
   rw[<-k] at t5 U⊢
   have f0:(0:Int)<=(a.length:Int):=by omega
   have f1:(a.length:Int)<=((a.length+X.length:Nat):Int):=by omega
   have f2:a.length+X.length - a.length=X.length:=by omega
   have N:∀M o w,(i.set id o++M).set id w=i.set id w++M:=λM o w=>by
    rw[qd (zh j),List.set_set]
   have hz:List.take a.length ((a++X).map evC)++(List.replicate X.length ([i64 0,i64 0,i64 0,i64 0,i64 0,i64 0,i64 0,i64 0,i64 0,i64 0,i64 0]:List AV)++List.drop (a.length+X.length) ((a++X).map evC))=(a++List.replicate X.length xXa).map evC:=by
    rw[List.drop_of_length_le (by simp),List.append_nil,List.map_append,List.map_append,List.take_append_of_le_length (by simp),List.take_of_length_le (by simp),List.map_replicate]
    rfl
   have f3:((a.length:Nat):Int)<=((a.length+X.length:Nat):Int):=f1
   simp only[go_sem,t0,t5,I,N,hz,List.length_map,List.length_append,List.length_replicate,f0,f1,f2,Int.toNat_natCast,true_and,or_true,Int.le_refl,Nat.le_refl,Option.bind_some,List.length_replicate,List.all_replicate,ite_self,Nat.sub_zero]
   have m:=(List.getElem?_eq_some_iff.1 j).1
   refine ⟨.vw (.tl id st) 11 0 a.length,by simp only[go_sem],.inr ⟨i.set id _,L,rfl,by simp,by simp[AV.lt,m],KeepLt.refl.set rfl (vz _),⟨_,rfl,.inr ⟨_,rfl⟩,?_⟩⟩⟩
   have C:=zh (b:=qb (a++List.replicate X.length xXa) st) j
   refine ⟨?_,λ_=>?_⟩
   ·rw[xy,zX,C,jV,if_pos rfl,Option.bind_some,if_pos ⟨by simp,.inr (by rw[qE,C,km])⟩]
    simp
   ·rw[Ze,qE,C,km]
    rfl
set_option maxRecDepth 100000
theorem Wya (f:FuncId) (cs:List AV):ji Tryz.prog 48 [.v (.slice none 0 0),.fn (.func f) [] cs] (.v (.slice none 0 0)):=λh=>by
 refine zf Tryz.f48 [.tmp 4] 42 rfl rfl rfl rfl rfl rfl (by decide) (⟨_,_,⟨rfl,rfl⟩,.refl⟩) λB=>?_
 simp only[go_sem]
 refine zc (c42 h _ f cs [] (λ_=>false) (by simp) (λr a=>by cases a) ⟨rfl,λh=>absurd rfl h⟩ (λr a=>by cases a)) ?_
 rintro _ c ⟨rfl,b⟩
 subst b
 have:Z4 [] (λ_=>false)= -1:=rfl
 simp only[go_sem,this]
 (first | refine zd ?_ | refine ze ?_ (by rfl))<;>(simp only[go_sem]<;>try rfl)
def Xl (s:Setup) (w:Int) (l:List Ev):List Ev:=(zD l).filter λe=> !Zv s w e
theorem c41 (h:List Ob) (s:Setup) (a:SA) (k:SIn h s a) (x:AV) (l:List Ev) (w:Int) (q:SlOf h x 11 (l.map evC)) (C:l.length<1048576):
  ACalls Tryz.prog 110 [z6 s a,x,i64 w] h λr h'=>∃L,h'=h++L/\NoRes L/\New h 11 r ((Xl s w l).map evC) L:=by
 have hex:∃r h',(∃L,h'=h++L/\NoRes L/\New h 11 r ((Xl s w l).map evC) L)/\ResK h h':=
  ⟨.sl 11 _,_,⟨[],rfl,qh,λ_ _=>⟨rfl,λ_=>rfl⟩⟩,zR⟩
 refine zf Tryz.f110 [.tmp 6] 11 rfl rfl rfl rfl rfl rfl (by decide) (hex) λB=>?_
 simp only[go_sem,k.w.one,k.e.one,k.c.one,k.g.one,k.r.one,k.t.one]
 refine zc (c57 _ x l (q.app _) (by omega)) ?_
 have m:=qT l
 rintro r D (⟨rfl,rfl,rfl⟩ | ⟨rfl,rfl⟩)
 ·simp only[go_sem]
  refine zc (Wya _ _ _) ?_
  rintro _ u ⟨rfl,d⟩
  subst d
  simp only[go_sem]
  exact ⟨.v (.slice none 0 0),by simp only[go_sem],.inl ⟨_,rfl,zg rfl (zi rfl),λ_ _=>⟨rfl,λh=>absurd rfl h⟩⟩⟩
 ·simp only[go_sem]
  have z:(h++[.box 30 (zr s a),.box 3 [i64 w],qb (zD l) 1])[h.length+2]? =some (qb (zD l) 1):=by rw[zm rfl];rfl
  refine zc (c73 _ (h.length+2) 1 (zD l) 178 _ (Zv s w) z (by omega) λe A o L=>?_) ?_
  ·have b:(h++[.box 30 (zr s a),.box 3 [i64 w],qb (zD l) 1]).set (h.length+2) o=h++[.box 30 (zr s a),.box 3 [i64 w],o]:=by
    rw[List.set_append_right _ _ (by omega),show h.length+2 - h.length=2 by omega]
    rfl
   rw[b,List.append_assoc]
   refine c74 _ _ _ e w s a (k.app _) ?_ ?_
   ·rw[zm rfl];rfl
   ·rw[zo rfl];rfl
  ·rintro r u ⟨l2,rfl,y,j⟩
   have b:(h++[.box 30 (zr s a),.box 3 [i64 w],qb (zD l) 1]).set (h.length+2) (qb l2 1)=h++[.box 30 (zr s a),.box 3 [i64 w],qb l2 1]:=by
    rw[List.set_append_right _ _ (by omega),show h.length+2 - h.length=2 by omega]
    rfl
   rw[b] at j⊢
   simp only[go_sem]
   refine ⟨r,by simp only[go_sem],.inl ⟨_,rfl,zg rfl (zg rfl (zi rfl)),λi f=>?_⟩⟩
   have d:(i++[.box 30 (zr s a),.box 3 [i64 w],qb l2 1])[h.length+2]? =(h++[.box 30 (zr s a),.box 3 [i64 w],qb l2 1])[h.length+2]? :=by
    rw[zm f.symm,zm rfl]
   have p:zq (i++[.box 30 (zr s a),.box 3 [i64 w],qb l2 1]) r=zq (h++[.box 30 (zr s a),.box 3 [i64 w],qb l2 1]) r/\eOf (i++[.box 30 (zr s a),.box 3 [i64 w],qb l2 1]) r=eOf (h++[.box 30 (zr s a),.box 3 [i64 w],qb l2 1]) r:=by
    rcases y with rfl | ⟨n,rfl⟩
    ·rw[zX,zX,qE,qE,d];exact ⟨rfl,rfl⟩
    ·rw[xy,xy,Ze,Ze,zX,zX,qE,qE,d];exact ⟨rfl,rfl⟩
   exact ⟨by rw[p.1];exact j.rows,λh=>by rw[p.2];exact j.ee h⟩
set_option maxRecDepth 100000
def kp (w:Int) (e:Ev):Bool:=e.kind==7 && jX e.at_==w
def jB (l:List Ev) (w:Int):Nat:=(l.filter (kp w)).length
theorem c45 (h:List Ob) (x:AV) (l:List Ev) (w:Int) (q:SlOf h x 11 (l.map evC)) (F:l.length<1048576):
  ACalls Tryz.prog 116 [x,i64 w] h λr h'=>r=i64 (jB l w)/\h'=h:=by
 have t:∀M,zq (h++M) x=some (l.map evC):=λM=>(q.app M).rows
 refine zf Tryz.f116 [.tmp 4] 27 rfl rfl rfl rfl rfl rfl (by decide) (⟨_,_,⟨rfl,rfl⟩,.refl⟩) λB=>?_
 simp only[go_sem,q.rows,t,List.length_map]
 refine zj (by decide) (λm T h'=>∃(k:Nat) (L:List Ob),h'=h++L/\k<=l.length/\T 1=i64 w/\T 4=i64 (jB (l.take k) w)/\T 7=x/\T 8=i64 l.length/\T 9=i64 k/\m=l.length - k) l.length
  ⟨0,[],by simp,by omega,by simp only[go_sem],by (simp only[go_sem]<;>rfl),by simp only[go_sem],by simp only[go_sem],by (simp only[go_sem]<;>rfl),rfl⟩ ?_
 rintro m T h' ⟨k,L,rfl,E,t1,t4,p,t8,t9,rfl⟩
 simp only[go_sem,t8,t9]
 refine ways (λe=>?_) (λe=>?_)
 ·have f:=dlt e
  have n:=(q.app L).at (i:=k) (by simpa using f)
  have d:(l.map evC)[k]? =some (evC l[k]):=qX (List.getElem?_eq_getElem f)
  have o:=jy f
  obtain ⟨v,y⟩:∃v,v=l[k]:=⟨_,rfl⟩
  rw[<-y] at d
  have G:(l.take k).length=k:=by simp;omega
  have D:jB (l.take k) w<=k:=by
   have:=List.length_filter_le (kp w) (l.take k)
   unfold jB
   omega
  have a:jB (l.take (k+1)) w=jB (l.take k) w+(if kp w v then 1 else 0):=by
   unfold jB
   rw[<-List.take_append_getElem f,List.filter_append,List.length_append, <-y]
   cases h:kp w v<;>simp[h]
  have gN:∀b,(h++(L++[b]))[h.length+L.length]? =some b:=λb=>by
   rw[zm rfl]
   simp
  have z:∀b c,(h++(L++[b])).set (h.length+L.length) c=h++(L++[c]):=λb c=>by
   rw[List.set_append_right _ _ (by simp),show h.length+L.length - h.length=L.length by omega,List.set_append_right _ _ (Nat.le_refl _),Nat.sub_self]
   rfl
  by_cases u:v.kind=7
  ·have g:(v.kind==7)=true:=by simpa using u
   simp only[go_sem,p,t9,t1,t,n,d,o,gN,z,List.length_map,Int.toNat_natCast,Int.natCast_nonneg,g,zJ]
   refine zc (c17 v.at_ _) ?_
   rintro _ H ⟨rfl,A⟩
   subst A
   simp only[go_sem,t1]
   refine ways (λs=>?_) (λs=>?_)
   ·have j:kp w v=true:=by simp only[kp,g];exact s
    rw[j,if_pos rfl] at a
    simp only[go_sem,t4,t9]
    exact ⟨l.length - (k+1),by omega,k+1,L++[.box 73 (evC v)],rfl,by omega,t1,by rw[a];exact zx (by omega) rfl,p,t8,zx (by omega) rfl,rfl⟩
   ·have j:kp w v=false:=by simp only[kp,g];exact s
    rw[j,if_neg (by simp)] at a
    simp only[go_sem,t9]
    exact ⟨l.length - (k+1),by omega,k+1,L++[.box 73 (evC v)],rfl,by omega,t1,by rw[a];exact t4,p,t8,zx (by omega) rfl,rfl⟩
  ·have g:(v.kind==7)=false:=by simpa using u
   have j:kp w v=false:=by simp only[kp,g];rfl
   rw[j,if_neg (by simp)] at a
   simp only[go_sem,p,t9,t,n,d,o,gN,z,List.length_map,Int.toNat_natCast,Int.natCast_nonneg,g,zJ]
   exact ⟨l.length - (k+1),by omega,k+1,L++[.box 73 (evC v)],rfl,by omega,t1,by rw[a];exact t4,t8,zx (by omega) rfl,rfl⟩
 ·have C:=qU e
  have:k=l.length:=by omega
  subst this
  rw[List.take_length] at t4
  simp only[go_sem,t4]
  (first | refine zd ?_ | refine ze ?_ (by rfl))<;>(simp only[go_sem]<;>try rfl)
set_option maxRecDepth 100000
attribute [go_sem] yoa QOa
theorem c62 (n:Int):ji Tryz.prog 182 [i64 n] (rat (n,1)):=λh=>by
 refine zf Tryz.f182 [.cell 2 24] 5 rfl rfl rfl rfl rfl rfl (by decide) (⟨_,_,⟨rfl,rfl⟩,.refl⟩) λB=>?_
 simp only[go_sem]
 (first | refine zd ?_ | refine ze ?_ (by rfl))<;>(simp only[go_sem]<;>try rfl)
theorem c61 (a b:zF) (d:qj a) (f:qj b):ji Tryz.prog 181 [rat a,rat b] (J5 (wI [a,b])):=λh=>by
 refine zf Tryz.f181 [.cell 4 24,.tmp 5] 12 rfl rfl rfl rfl rfl rfl (by decide) (⟨_,_,⟨rfl,rfl⟩,.refl⟩) λB=>?_
 simp only[go_sem]
 refine zc (c23 _ _ [a,b] (λp c=>by
  rcases List.mem_cons.1 c with rfl | c
  ·exact d
  ·rw[List.mem_singleton.1 c];exact f) (by simp) ⟨by simp only[go_sem,List.map_cons,List.map_nil,qz],λ_=>by simp only[go_sem]⟩) ?_
 rintro _ g ⟨rfl,e⟩
 subst e
 simp only[go_sem]
 (first | refine zd ?_ | refine ze ?_ (by rfl))<;>(simp only[go_sem]<;>try rfl)
theorem c60 (h:List Ob) (j:Nat) (d:Int) (f:FuncId) (a b:zF) (v:zF × Int) (g:h[j]? =some (.box 37 [i64 d])) (k:∀L,ACalls Tryz.prog f [rat a,rat b] (h++L) λr h'=>r=J5 v/\h'=h++L):
  ACalls Tryz.prog 180 [.fn (.func f) [] [],rat a,rat b,.ptr j 0] h λr h'=>r=rat (if d=0 then v.1 else (0,0))/\h'=h.set j (.box 37 [i64 (if d=0 then v.2 else d)]):=by
 have i:∀M,(h++M)[j]? =some (.box 37 [i64 d]):=λM=>zb g
 have p:∀M o,(h++M).set j o=h.set j o++M:=λM o=>qd g
 refine zf Tryz.f180 [.cell 7 24] 22 rfl rfl rfl rfl rfl rfl (by decide) (⟨_,_,⟨rfl,rfl⟩,zC g rfl⟩) λB=>?_
 simp only[go_sem,i]
 refine ways (λe=>?_) (λe=>?_)
 ·have e:¬ d=0:=by simpa using e
  simp only[go_sem,i]
  exact ⟨rat (0,0),by simp only[go_sem],.inr ⟨h,_,rfl,rfl,rfl,KeepLt.refl,by rw[if_neg e],by rw[if_neg e,zT g]⟩⟩
 ·have e:d=0:=by simpa using e
  simp only[go_sem]
  refine zc (k _) ?_
  rintro _ q ⟨rfl,m⟩
  subst m
  have gN:∀o M n,(h.set j o++M)[h.length+n]? =M[n]? :=λo M n=>zm (by simp)
  have l:∀o M n c,(h.set j o++M).set (h.length+n) c=h.set j o++M.set n c:=λo M n c=>by
   rw[List.set_append_right _ _ (by simp),List.length_set,show h.length+n - h.length=n by omega]
  simp only[go_sem,i,p,gN,l,List.set_cons_succ,List.set_cons_zero,List.getElem?_cons_succ,List.getElem?_cons_zero]
  exact ⟨rat v.1,by simp only[go_sem,gN,List.getElem?_cons_succ,List.getElem?_cons_zero],.inr ⟨h.set j _,_,rfl,by simp,rfl,KeepLt.refl.set rfl rfl,by rw[if_pos e],by rw[if_pos e]⟩⟩
set_option maxRecDepth 100000
attribute [go_sem] QQa yqa
def wi (p:zF) (t:XI):Bool:= !VJ p (make t.1 100).1
def yS (p:zF):Int->Int->List XI->Int
 | out,_,[]=>out
 | out,i,t::l=>yS p (if wi p t then i else out) (i+1) l
def ku (s:Setup) (p:zF):Int:=if zw s && rok p then yS p (-1) 0 s.tiers else -1
theorem c26 (h:List Ob) (s:Setup) (a:SA) (j:SIn h s a) (f:SFit s) (p:zF) (A:qj p):
  ACalls Tryz.prog 54 [z6 s a,rat p] h λr h'=>r=i64 (ku s p)/\h'=h:=by
 refine zf Tryz.f54 [.tmp 4] 40 rfl rfl rfl rfl rfl rfl (by decide) (⟨_,_,⟨rfl,rfl⟩,.refl⟩) λB=>?_
 simp only[go_sem,j.w.one,j.e.one,j.c.one,j.g.one,j.r.one,j.t.one]
 refine zc (c16 _ s a (j.app _) f) ?_
 rintro _ C ⟨rfl,o⟩
 subst o
 cases q:zw s with
 | false=>
   simp only[go_sem,q,Jwa,Bool.not_true,Bool.not_false]
   (first | refine zd ?_ | refine ze ?_ (by rfl))<;>(simp only[go_sem,ku,q,Bool.false_and]<;>try rfl)
 | true=>
   simp only[go_sem,q,Jwa,Bool.not_true,Bool.not_false]
   refine zc (c27 p A.1 A.2 _) ?_
   rintro _ C ⟨rfl,o⟩
   subst o
   cases x:rok p with
   | false=>
     simp only[go_sem,x,Bool.not_true,Bool.not_false]
     (first | refine zd ?_ | refine ze ?_ (by rfl))<;>(simp only[go_sem,ku,q,x,Bool.true_and]<;>try rfl)
   | true=>
     have J:∀M,zq (h++M) a.t=some (s.tiers.map qz):=λM=>(j.app M).t.rows
     simp only[go_sem,x,Bool.not_true,Bool.not_false,J,List.length_map]
     have O:=f.nt
     refine zj (by decide) (λm T h'=>∃(k:Nat) (out:Int) (L:List Ob),h'=h++(.box 30 (zr s a):: .box 24 [i64 p.1,i64 p.2]::L)/\k<=s.tiers.length/\T 3= .ptr (h.length+1) 0/\T 5=i64 out/\T 20=a.t/\T 21=i64 s.tiers.length/\T 22=i64 k/\yS p (-1) 0 s.tiers=yS p out k (s.tiers.drop k)/\m=s.tiers.length - k) s.tiers.length
      ⟨0, -1,[],rfl,by omega,by simp only[go_sem],by (simp only[go_sem]<;>rfl),by simp only[go_sem],by simp only[go_sem],by (simp only[go_sem]<;>rfl),rfl,rfl⟩ ?_
     rintro m T h' ⟨k,out,L,v,N,t3,t5,l,n,t22,y,rfl⟩
     have H:SlOf h' a.t 2 (s.tiers.map qz):=by rw[v];exact j.t.app _
     simp only[go_sem,n,t22]
     refine ways (λe=>?_) (λe=>?_)
     ·have d:=dlt e
      have D:=H.at (i:=k) (by simpa using d)
      have u:(s.tiers.map qz)[k]? =some (qz s.tiers[k]):=by rw[List.getElem?_map,List.getElem?_eq_getElem d];rfl
      have E:=jy d
      have I:∀M,(h'++M)[h.length+1]? =some (.box 24 [i64 p.1,i64 p.2]):=λM=>by rw[v];exact zb (by rw[zm rfl];rfl)
      simp only[go_sem,l,t22,D,H.rows,u,E,qz,List.length_map,Int.toNat_natCast,Int.natCast_nonneg]
      refine zc (c18 s.tiers[k].1 100 (f.tiers _ (List.getElem_mem d)).1 ⟨by decide,by decide⟩ _) ?_
      rintro _ C ⟨rfl,o⟩
      subst o
      simp only[go_sem,t3,I]
      refine zc (c20 p _ A (yJ _ _) _) ?_
      rintro _ C ⟨rfl,o⟩
      subst o
      simp only[go_sem]
      have b:yS p out k (s.tiers.drop k)=yS p (if wi p s.tiers[k] then (k:Int) else out) ((k+1:Nat):Int) (s.tiers.drop (k+1)):=by
       rw[List.drop_eq_getElem_cons d,yS]
       rfl
      refine ways (λF=>?_) (λF=>?_)
      ·have G:wi p s.tiers[k]=true:=F
       rw[G,if_pos rfl] at b
       simp only[go_sem,t22]
       exact ⟨s.tiers.length - (k+1),by omega,k+1,k,L++_,by rw[v];simp only[List.append_assoc,List.cons_append];rfl,by omega,t3,rfl,l,n,zx (by omega) rfl,by rw[y,b],rfl⟩
      ·have G:wi p s.tiers[k]=false:=F
       rw[G,if_neg (by simp)] at b
       simp only[go_sem,t22]
       exact ⟨s.tiers.length - (k+1),by omega,k+1,out,L++_,by rw[v];simp only[List.append_assoc,List.cons_append];rfl,by omega,t3,t5,l,n,zx (by omega) rfl,by rw[y,b],rfl⟩
     ·have K:=qU e
      have z:k=s.tiers.length:=by omega
      subst z
      rw[List.drop_length,yS] at y
      subst v
      simp only[go_sem,t5]
      (first | refine zd ?_ | refine ze ?_ (by rfl))<;>(simp only[go_sem,ku,q,x,Bool.true_and,y]<;>try rfl)
end Go.Proofs.YtfmldcilgbbimaaGreat.Ax
