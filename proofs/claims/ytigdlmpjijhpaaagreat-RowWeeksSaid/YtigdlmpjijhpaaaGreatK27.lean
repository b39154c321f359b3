/-
  Joined.
-/
import Derived.Test.YtigdlmpjijhpaaaGreatK20
set_option linter.unusedSimpArgs false
set_option linter.unusedVariables false
namespace Go.Proofs.YtigdlmpjijhpaaaGreat.Ax
open Go Go.Proofs
set_option maxRecDepth 100000
attribute [go_sem] yAa y2a
theorem wJa {b:Bool}:(b==false)= !b:=by cases b<;>rfl
theorem c40:jf Tryz.prog 123 [] (rat (0,1)):=λh=>by
 refine zf Tryz.f123 [.cell 0 24] 2 rfl rfl rfl rfl rfl rfl (by decide) (⟨_,_,⟨rfl,rfl⟩,.refl⟩) λB=>?_
 simp only[go_sem]
 (first | refine zc ?_ | refine ze ?_ (by rfl))<;>(simp only[go_sem]<;>try rfl)
def vR (id:Int) (e:Ev):Bool:=e.id==id && e.kind==3
theorem c43 (h:List Ob) (i:Nat) (e:Ev) (g:Seg) (c:h[i]? =some (.box 146 (xf g))):ACalls Tryz.prog 125 [evV e,.ptr i 0] h λr h'=>r=bl (vR g.id e)/\h'=h:=by
 have b:∀M,(h++M)[i]? =some (.box 146 (xf g)):=λM=>zb c
 cases a:e.id==g.id with
 | false=>
   refine zf Tryz.f125 [.tmp 3] 14 rfl rfl rfl rfl rfl rfl (by decide) (⟨_,_,⟨rfl,rfl⟩,.refl⟩) λB=>?_
   simp only[go_sem,b,a,zL]
   (first | refine zc ?_ | refine ze ?_ (by rfl))<;>(simp only[go_sem,vR,a,Bool.false_and]<;>try rfl)
 | true=>
   refine zf Tryz.f125 [.tmp 3] 14 rfl rfl rfl rfl rfl rfl (by decide) (⟨_,_,⟨rfl,rfl⟩,.refl⟩) λB=>?_
   simp only[go_sem,b,a,zL]
   (first | refine zc ?_ | refine ze ?_ (by rfl))<;>(simp only[go_sem,vR,a,Bool.true_and]<;>try rfl)
def yX (s:Setup) (w:Int) (e:Ev):Bool:=e.worker != w || !yR s e
theorem c74 (h:List Ob) (i j:Nat) (e:Ev) (w:Int) (s:Setup) (a:SA) (k:SIn h s a) (g:h[i]? =some (.box 3 [i64 w])) (f:h[j]? =some (.box 30 (zr s a))):ACalls Tryz.prog 196 [evV e,.ptr i 0,.ptr j 0] h λr h'=>r=bl (yX s w e)/\h'=h:=by
 have d:∀M,(h++M)[i]? =some (.box 3 [i64 w]):=λM=>zb g
 have b:∀M,(h++M)[j]? =some (.box 30 (zr s a)):=λM=>zb f
 cases c:e.worker != w with
 | true=>
   refine zf Tryz.f196 [.tmp 4] 15 rfl rfl rfl rfl rfl rfl (by decide) (⟨_,_,⟨rfl,rfl⟩,.refl⟩) λB=>?_
   simp only[go_sem,d,b,c,wJa,Bool.not_true,Bool.not_false]
   (first | refine zc ?_ | refine ze ?_ (by rfl))<;>(simp only[go_sem,yX,c,Bool.true_or]<;>try rfl)
 | false=>
   refine zf Tryz.f196 [.tmp 4] 15 rfl rfl rfl rfl rfl rfl (by decide) (⟨_,_,⟨rfl,rfl⟩,.refl⟩) λB=>?_
   simp only[go_sem,d,b,c,wJa,Bool.not_true,Bool.not_false]
   refine zd (c14 _ s a (k.app _) e) ?_
   rintro _ m ⟨rfl,l⟩
   subst l
   simp only[go_sem]
   (first | refine zc ?_ | refine ze ?_ (by rfl))<;>(simp only[go_sem,yX,c,Bool.false_or]<;>try rfl)
theorem c44 (h:List Ob) (j:Nat) (n d b:Int) (a:zy) (e:Int) (f:h[j]? =some (.box 210 [i64 n,i64 d,i64 b])):
  ACalls Tryz.prog 127 [.ptr j 0,rat a,i64 e] h λr h'=>r= .tup []/\h'=h.set j (.box 210 (if b=0 then [i64 a.1,i64 a.2,i64 e] else [i64 n,i64 d,i64 b])):=by
 have l:∀M,(h++M)[j]? =some (.box 210 [i64 n,i64 d,i64 b]):=λM=>zb f
 have m:∀M o,(h++M).set j o=h.set j o++M:=λM o=>z6 f
 have k:∀M o,(h.set j o++M)[j]? =some o:=λM o=>zb (zh f)
 have i:∀M o g,(h.set j o++M).set j g=h.set j g++M:=λM o g=>by
  rw[z6 (zh f),List.set_set]
 refine zf Tryz.f127 [] 19 rfl rfl rfl rfl rfl rfl (by decide) (⟨_,_,⟨rfl,rfl⟩,zK f rfl⟩) λB=>?_
 simp only[go_sem,l]
 refine ways (λc=>?_) (λc=>?_)
 ·have c:b=0:=by simpa using c
  simp only[go_sem,l,m,k,i]
  exact ⟨.tup [],by simp only[go_sem],.inr ⟨_,_,rfl,by simp,rfl,KeepLt.refl.set rfl rfl,rfl,by rw[if_pos c]⟩⟩
 ·have c:¬ b=0:=by simpa using c
  simp only[go_sem]
  exact ⟨.tup [],by simp only[go_sem],.inr ⟨h,_,rfl,rfl,rfl,KeepLt.refl,rfl,by rw[if_neg c,zZ f]⟩⟩
set_option maxRecDepth 100000
def avI:AV->Int
 | .v (.int _ n)=>n
 | _=>0
def Vg (r:List AV):Ev:=⟨avI (nth r 0),avI (nth r 1),avI (nth r 2),avI (nth r 3),avI (nth r 4),avI (nth r 5),avI (nth r 6),avI (nth r 7),avI (nth r 8),avI (nth r 9),avI (nth r 10)⟩
def zWa:Ev:=⟨0,0,0,0,0,0,0,0,0,0,0⟩
theorem V5 (e:Ev):Vg (evC e)=e:=rfl
theorem X0 (p:Ev->Bool) (l:List Ev):(Qr (l.map evC) (λr=>p (Vg r))= -1/\∀e∈l,p e=false)∨∃A x R,l=A++x::R/\Qr (l.map evC) (λr=>p (Vg r))=(A.length:Int)/\p x=true/\∀e∈A,p e=false:=by
 by_cases h:∀e∈l,p e=false
 ·refine .inl ⟨vv λj b=>?_,h⟩
  rw[List.getElem_map,V5]
  exact h _ (List.getElem_mem _)
 ·right
  induction l with
  | nil=>exact absurd (λe a=>by cases a) h
  | cons y l i=>
    cases c:p y with
    | true=>exact ⟨[],y,l,rfl,vK (rows:=(y::l).map evC) (k:=0) (by simp) (λj b=>by omega) c,c,λe a=>by cases a⟩
    | false=>
      obtain ⟨A,x,R,rfl,m,d,g⟩:=i (λq=>h λe a=>by
       rcases List.mem_cons.1 a with rfl | a
       ·exact c
       ·exact q e a)
      have f:∀e∈y::A,p e=false:=λe a=>by
       rcases List.mem_cons.1 a with rfl | a
       ·exact c
       ·exact g e a
      refine ⟨y::A,x,R,rfl,?_,d,f⟩
      refine vK (by simp) (λj b=>?_) ?_
      ·rw[List.getElem_map,V5]
       have:(y::(A++x::R))[j]'(by simp at b ⊢;omega)=(y::A)[j]:=by
        have q:((y::A)++x::R)[j]'(by simp at b ⊢;omega)=(y::A)[j]:=List.getElem_append_left b
        exact q
       rw[this]
       exact f _ (List.getElem_mem _)
      ·rw[List.getElem_map,V5]
       have:(y::(A++x::R))[(y::A).length]'(by simp)=x:=by
        rw[List.getElem_of_eq (show y::(A++x::R)=(y::A)++x::R from rfl),List.getElem_append_right (Nat.le_refl _)]
        simp
       rw[this]
       exact d
theorem Vh {n:Nat}:∀l:List Ev,qb n (l.map evC)=true
 | []=>rfl
 | e::l=>by
   rw[List.map_cons,qb,Vh l]
   rfl
theorem Vi {p:Ev->Bool} {l:List Ev} (h:∀e∈l,p e=false):l.filter (λe=> !p e)=l:=List.filter_eq_self.2 λe a=>by simp[h e a]
theorem c73 (h:List Ob) (id st:Nat) (l:List Ev) (f:FuncId) (H:List AV) (p:Ev->Bool) (j:h[id]? =some (zY l st)) (hl:l.length<1048576) (hp:∀e∈l,∀o L,ACalls Tryz.prog f ([evV e]++H) (h.set id o++L) λr h'=>r=bl (p e)/\h'=h.set id o++L):
  ACalls Tryz.prog 52 [.tl id st,.fn (.func f) [] H] h λr h'=>∃l2,h'=h.set id (zY l2 st)/\(r= .tl id st∨∃n,r= .vw (.tl id st) 11 0 n)/\SlOf h' r 11 ((l.filter λe=> !p e).map evC):=by
 have hex:∃r h',(∃l2,h'=h.set id (zY l2 st)/\(r=AV.tl id st∨∃n,r= .vw (.tl id st) 11 0 n)/\SlOf h' r 11 ((l.filter λe=> !p e).map evC))/\ResK h h':=
  ⟨.tl id st,_,⟨l.filter λe=> !p e,rfl,.inl rfl,by rw[zP,zh j,xK,if_pos rfl],λ_=>by rw[qR,zh j,vo]⟩,zK j rfl⟩
 have Y:SlOf h (.tl id st) 11 (l.map evC):=⟨by rw[zP,j,xK,if_pos rfl],λ_=>by rw[qR,j,vo]⟩
 have K:ww h f H agA (l.map evC) (λr=>p (Vg r)):=λrow G L=>by
  obtain ⟨e,he,rfl⟩:=List.mem_map.1 G
  have:=hp e he (zY l st) L
  rw[zZ j] at this
  exact this
 refine zf Tryz.f52 [.tmp 4] 42 rfl rfl rfl rfl rfl rfl (by decide) (hex) λB=>?_
 simp only[go_sem]
 refine zd (c42 h _ f H _ _ (by rw[List.length_map];omega) (λr hr=>by obtain ⟨e,_,rfl⟩:=List.mem_map.1 hr;rfl) Y K) ?_
 rintro _ i ⟨rfl,e1⟩
 subst e1
 rcases X0 p l with ⟨W,Q⟩ | ⟨A,x,R,rfl,W,Q,q3⟩
 ·rw[W]
  simp only[go_sem]
  exact ⟨.tl id st,by simp only[go_sem],.inl ⟨l,(zZ j).symm,.inl rfl,by rw[Vi Q];exact Y⟩⟩
 ·rw[W]
  have N:((A.length:Int)== -1)=false:=by simp
  simp only[List.length_append,List.length_cons] at hl
  have w1:wr ((A.length:Int)+1)=((A.length+1:Nat):Int):=jv (by omega)
  have z:((A++[x]).filter λe=> !p e)=A:=by rw[List.filter_append,Vi q3];simp[Q]
  simp only[go_sem,N,w1]
  refine zk (by decide) (λn T h'=>∃(P X d:List Ev) (L:List Ob),P++d=A++x::R/\(P.filter λe=> !p e).length+X.length=P.length/\0<X.length/\h'=i.set id (zY ((P.filter λe=> !p e)++(X++d)) st)++L/\T 0= .tl id st/\T 1= .fn (.func f) [] H/\T 5=i64 (P.filter λe=> !p e).length/\T 6=i64 P.length/\n=d.length) R.length
   ⟨A++[x],[x],R,[],by simp,by rw[z];simp,by simp,by rw[z,List.append_nil];exact (zZ j).symm,by simp only[go_sem],by simp only[go_sem],by (simp only[go_sem]<;>rw[z]),by (simp only[go_sem]<;>simp),rfl⟩ ?_
  rintro n T h' ⟨P,X,d,L,s,O,U,rfl,t0,t1,t5,t6,rfl⟩
  have J:∀M o,(i.set id o++M)[id]? =some o:=λM o=>zb (zh j)
  have F:=congrArg List.length s
  simp only[List.length_append,List.length_cons] at F
  simp only[go_sem,t6,t0,J,List.length_map,List.length_append]
  refine ways (λe=>?_) (λe=>?_)
  ·have m:=dlt e
   cases d with
   | nil=>simp at m;omega
   | cons v d=>
   simp only[List.length_cons] at m F
   obtain ⟨a,q⟩:∃a,a=P.filter λe=> !p e:=⟨_,rfl⟩
   rw[<-q] at O t5 m⊢
   have hv:v∈A++x::R:=by rw[<-s];simp
   have S:(a++(X++v::d))[P.length]? =some v:=by
    rw[<-List.append_assoc]
    exact wH (by simp;omega)
   have ra:((a++(X++v::d)).map evC)[P.length]? =some (evC v):=qH S
   have la:(P.length:Int)<((a.length+(X.length+(d.length+1)):Nat):Int):=by omega
   have w2:wr ((P.length:Int)+1)=((P.length+1:Nat):Int):=jv (by omega)
   have w3:wr ((a.length:Int)+1)=((a.length+1:Nat):Int):=jv (by omega)
   obtain ⟨D,t⟩:∃D,D=a++(X++v::d):=⟨_,rfl⟩
   rw[<-t] at ra⊢
   have k:D.length=a.length+(X.length+(d.length+1)):=by rw[t];simp
   have gN:∀o b,(i.set id o++(L++[b]))[i.length+L.length]? =some b:=λo b=>by
    rw[zl (by simp)]
    simp
   have sN:∀o b c,(i.set id o++(L++[b])).set (i.length+L.length) c=i.set id o++(L++[c]):=λo b c=>by
    rw[List.set_append_right _ _ (by simp),List.length_set,show i.length+L.length - i.length=L.length by omega,List.set_append_right _ _ (Nat.le_refl _),Nat.sub_self]
    rfl
   simp only[go_sem,gN,sN,t6,t0,t1,J,ra,la,k,List.length_map,Int.toNat_natCast,Int.natCast_nonneg]
   refine zd (hp v hv _ _) ?_
   rintro _ h3 ⟨rfl,e3⟩
   subst e3
   simp only[go_sem]
   have u:(P++[v])++d=A++x::R:=by rw[<-s];simp
   refine ways (λC=>?_) (λC=>?_)
   ·have C:p v=false:=by simpa using C
    have g:((P++[v]).filter λe=> !p e)=a++[v]:=by rw[List.filter_append, <-q];simp[C]
    cases X with
    | nil=>simp at U
    | cons x0 X=>
    have E:D=a++x0::(X++v::d):=t
    have rb:(D.map evC)[a.length]? =some (evC x0):=qH (by rw[E];exact wH rfl)
    have V:∀M o y,(i.set id o++M).set id y=i.set id y++M:=λM o y=>by
     rw[z6 (zh j),List.set_set]
    have lb:(a.length:Int)<((a.length+(X.length+1+(d.length+1)):Nat):Int):=by omega
    have I:(D.map evC).set a.length (evC v)=(a++v::(X++v::d)).map evC:=by
     rw[<-List.map_set,E,List.set_append_right _ _ (Nat.le_refl _),Nat.sub_self]
     rfl
    have hq:(a++[v])++((X++[v])++d)=a++v::(X++v::d):=by simp
    simp only[go_sem,gN,V,rb,lb,k,List.length_map,Int.toNat_natCast,Int.natCast_nonneg,t0,t1,t5,t6,J,w2,w3,I]
    exact ⟨d.length,by simp,P++[v],X++[v],d,L++[.box 75 (evC v)],u,by rw[g];simp at O ⊢;omega,by simp,by rw[g,hq],by rw[g];exact q8 (by simp),q8 (by simp),rfl⟩
   ·have C:p v=true:=by simpa using C
    have g:((P++[v]).filter λe=> !p e)=a:=by rw[List.filter_append, <-q];simp[C]
    simp only[go_sem,t6,w2]
    exact ⟨d.length,by simp,P++[v],X++[v],d,L++[.box 75 (evC v)],u,by rw[g];simp;omega,by simp,by rw[g,t];simp,t0,t1,by rw[g];exact t5,q8 (by simp),rfl⟩
  ·have ε:=jk e
   have hR:d=[]:=List.eq_nil_of_length_eq_zero (by omega)
   subst hR
   rw[List.append_nil] at s
   subst s
   obtain ⟨a,q⟩:∃a,a=(A++x::R).filter λe=> !p e:=⟨_,rfl⟩
   rw[<-q] at t5 O⊢
   have f0:(0:Int)<=(a.length:Int):=by omega
   have Z:(a.length:Int)<=((a.length+X.length:Nat):Int):=by omega
   have f2:a.length+X.length - a.length=X.length:=by omega
   have V:∀M o y,(i.set id o++M).set id y=i.set id y++M:=λM o y=>by
    rw[z6 (zh j),List.set_set]
   have hz:List.take a.length ((a++X).map evC)++(List.replicate X.length ([i64 0,i64 0,i64 0,i64 0,i64 0,i64 0,i64 0,i64 0,i64 0,i64 0,i64 0]:List AV)++List.drop (a.length+X.length) ((a++X).map evC))=(a++List.replicate X.length zWa).map evC:=by
    rw[List.drop_of_length_le (by simp),List.append_nil,List.map_append,List.map_append,List.take_append_of_le_length (by simp),List.take_of_length_le (by simp),List.map_replicate]
    rfl
   have f3:((a.length:Nat):Int)<=((a.length+X.length:Nat):Int):=Z
   simp only[go_sem,t0,t5,J,V,hz,List.length_map,List.length_append,List.length_replicate,f0,Z,f2,Int.toNat_natCast,true_and,or_true,Int.le_refl,Nat.le_refl,Option.bind_some,List.length_replicate,List.all_replicate,ite_self,Nat.sub_zero]
   have m:=(List.getElem?_eq_some_iff.1 j).1
   refine ⟨.vw (.tl id st) 11 0 a.length,by simp only[go_sem],.inr ⟨i.set id _,L,rfl,by simp,by simp[AV.lt,m],KeepLt.refl.set rfl (Vh _),⟨_,rfl,.inr ⟨_,rfl⟩,?_⟩⟩⟩
   have w:=zh (b:=zY (a++List.replicate X.length zWa) st) j
   refine ⟨?_,λ_=>?_⟩
   ·rw[xJ,zP,w,xK,if_pos rfl,Option.bind_some,if_pos ⟨by simp,.inr (by rw[qR,w,vo])⟩]
    simp
   ·rw[ZN,qR,w,vo]
    rfl
set_option maxRecDepth 100000
theorem Q8a (f:FuncId) (b:List AV):jf Tryz.prog 52 [.v (.slice none 0 0),.fn (.func f) [] b] (.v (.slice none 0 0)):=λh=>by
 refine zf Tryz.f52 [.tmp 4] 42 rfl rfl rfl rfl rfl rfl (by decide) (⟨_,_,⟨rfl,rfl⟩,.refl⟩) λB=>?_
 simp only[go_sem]
 refine zd (c42 h _ f b [] (λ_=>false) (by simp) (λr a=>by cases a) ⟨rfl,λh=>absurd rfl h⟩ (λr a=>by cases a)) ?_
 rintro _ d ⟨rfl,c⟩
 subst c
 have:Qr [] (λ_=>false)= -1:=rfl
 simp only[go_sem,this]
 (first | refine zc ?_ | refine ze ?_ (by rfl))<;>(simp only[go_sem]<;>try rfl)
def JP (s:Setup) (w:Int) (l:List Ev):List Ev:=(zx l).filter λe=> !yX s w e
theorem c41 (h:List Ob) (s:Setup) (a:SA) (k:SIn h s a) (x:AV) (l:List Ev) (w:Int) (z:SlOf h x 11 (l.map evC)) (C:l.length<1048576):
  ACalls Tryz.prog 124 [qj s a,x,i64 w] h λr h'=>∃L,h'=h++L/\NoRes L/\New h 11 r ((JP s w l).map evC) L:=by
 have hex:∃r h',(∃L,h'=h++L/\NoRes L/\New h 11 r ((JP s w l).map evC) L)/\ResK h h':=
  ⟨.sl 11 _,_,⟨[],rfl,jN,λ_ _=>⟨rfl,λ_=>rfl⟩⟩,zW⟩
 refine zf Tryz.f124 [.tmp 6] 11 rfl rfl rfl rfl rfl rfl (by decide) (hex) λB=>?_
 simp only[go_sem,k.w.one,k.e.one,k.c.one,k.g.one,k.r.one,k.t.one]
 refine zd (c57 _ x l (z.app _) (by omega)) ?_
 have m:=qF l
 rintro r A (⟨rfl,rfl,rfl⟩ | ⟨rfl,rfl⟩)
 ·simp only[go_sem]
  refine zd (Q8a _ _ _) ?_
  rintro _ u ⟨rfl,d⟩
  subst d
  simp only[go_sem]
  exact ⟨.v (.slice none 0 0),by simp only[go_sem],.inl ⟨_,rfl,zg rfl (zj rfl),λ_ _=>⟨rfl,λh=>absurd rfl h⟩⟩⟩
 ·simp only[go_sem]
  have y:(h++[.box 30 (zr s a),.box 3 [i64 w],zY (zx l) 1])[h.length+2]? =some (zY (zx l) 1):=by rw[zl rfl];rfl
  refine zd (c73 _ (h.length+2) 1 (zx l) 196 _ (yX s w) y (by omega) λe D o L=>?_) ?_
  ·have b:(h++[.box 30 (zr s a),.box 3 [i64 w],zY (zx l) 1]).set (h.length+2) o=h++[.box 30 (zr s a),.box 3 [i64 w],o]:=by
    rw[List.set_append_right _ _ (by omega),show h.length+2 - h.length=2 by omega]
    rfl
   rw[b,List.append_assoc]
   refine c74 _ _ _ e w s a (k.app _) ?_ ?_
   ·rw[zl rfl];rfl
   ·rw[zm rfl];rfl
  ·rintro r u ⟨l2,rfl,q,i⟩
   have b:(h++[.box 30 (zr s a),.box 3 [i64 w],zY (zx l) 1]).set (h.length+2) (zY l2 1)=h++[.box 30 (zr s a),.box 3 [i64 w],zY l2 1]:=by
    rw[List.set_append_right _ _ (by omega),show h.length+2 - h.length=2 by omega]
    rfl
   rw[b] at i⊢
   simp only[go_sem]
   refine ⟨r,by simp only[go_sem],.inl ⟨_,rfl,zg rfl (zg rfl (zj rfl)),λj f=>?_⟩⟩
   have d:(j++[.box 30 (zr s a),.box 3 [i64 w],zY l2 1])[h.length+2]? =(h++[.box 30 (zr s a),.box 3 [i64 w],zY l2 1])[h.length+2]? :=by
    rw[zl f.symm,zl rfl]
   have p:zo (j++[.box 30 (zr s a),.box 3 [i64 w],zY l2 1]) r=zo (h++[.box 30 (zr s a),.box 3 [i64 w],zY l2 1]) r/\eOf (j++[.box 30 (zr s a),.box 3 [i64 w],zY l2 1]) r=eOf (h++[.box 30 (zr s a),.box 3 [i64 w],zY l2 1]) r:=by
    rcases q with rfl | ⟨n,rfl⟩
    ·rw[zP,zP,qR,qR,d];exact ⟨rfl,rfl⟩
    ·rw[xJ,xJ,ZN,ZN,zP,zP,qR,qR,d];exact ⟨rfl,rfl⟩
   exact ⟨by rw[p.1];exact i.rows,λh=>by rw[p.2];exact i.ee h⟩
set_option maxRecDepth 100000
def xV (w:Int) (e:Ev):Bool:=e.kind==7 && kQ e.at_==w
def j6 (l:List Ev) (w:Int):Nat:=(l.filter (xV w)).length
theorem c45 (h:List Ob) (x:AV) (l:List Ev) (w:Int) (q:SlOf h x 11 (l.map evC)) (E:l.length<1048576):
  ACalls Tryz.prog 130 [x,i64 w] h λr h'=>r=i64 (j6 l w)/\h'=h:=by
 have s:∀M,zo (h++M) x=some (l.map evC):=λM=>(q.app M).rows
 refine zf Tryz.f130 [.tmp 4] 27 rfl rfl rfl rfl rfl rfl (by decide) (⟨_,_,⟨rfl,rfl⟩,.refl⟩) λB=>?_
 simp only[go_sem,q.rows,s,List.length_map]
 refine zk (by decide) (λm T h'=>∃(k:Nat) (L:List Ob),h'=h++L/\k<=l.length/\T 1=i64 w/\T 4=i64 (j6 (l.take k) w)/\T 7=x/\T 8=i64 l.length/\T 9=i64 k/\m=l.length - k) l.length
  ⟨0,[],by simp,by omega,by simp only[go_sem],by (simp only[go_sem]<;>rfl),by simp only[go_sem],by simp only[go_sem],by (simp only[go_sem]<;>rfl),rfl⟩ ?_
 rintro m T h' ⟨k,L,rfl,H,t1,t4,p,t8,t9,rfl⟩
 simp only[go_sem,t8,t9]
 refine ways (λe=>?_) (λe=>?_)
 ·have f:=dlt e
  have o:=(q.app L).at (i:=k) (by simpa using f)
  have d:(l.map evC)[k]? =some (evC l[k]):=qH (List.getElem?_eq_getElem f)
  have n:=jg f
  obtain ⟨v,u⟩:∃v,v=l[k]:=⟨_,rfl⟩
  rw[<-u] at d
  have G:(l.take k).length=k:=by simp;omega
  have C:j6 (l.take k) w<=k:=by
   have:=List.length_filter_le (xV w) (l.take k)
   unfold j6
   omega
  have a:j6 (l.take (k+1)) w=j6 (l.take k) w+(if xV w v then 1 else 0):=by
   unfold j6
   rw[<-List.take_append_getElem f,List.filter_append,List.length_append, <-u]
   cases h:xV w v<;>simp[h]
  have gN:∀b,(h++(L++[b]))[h.length+L.length]? =some b:=λb=>by
   rw[zl rfl]
   simp
  have y:∀b c,(h++(L++[b])).set (h.length+L.length) c=h++(L++[c]):=λb c=>by
   rw[List.set_append_right _ _ (by simp),show h.length+L.length - h.length=L.length by omega,List.set_append_right _ _ (Nat.le_refl _),Nat.sub_self]
   rfl
  by_cases z:v.kind=7
  ·have g:(v.kind==7)=true:=by simpa using z
   simp only[go_sem,p,t9,t1,s,o,d,n,gN,y,List.length_map,Int.toNat_natCast,Int.natCast_nonneg,g,zL]
   refine zd (c17 v.at_ _) ?_
   rintro _ F ⟨rfl,D⟩
   subst D
   simp only[go_sem,t1]
   refine ways (λt=>?_) (λt=>?_)
   ·have j:xV w v=true:=by simp only[xV,g];exact t
    rw[j,if_pos rfl] at a
    simp only[go_sem,t4,t9]
    exact ⟨l.length - (k+1),by omega,k+1,L++[.box 75 (evC v)],rfl,by omega,t1,by rw[a];exact zw (by omega) rfl,p,t8,zw (by omega) rfl,rfl⟩
   ·have j:xV w v=false:=by simp only[xV,g];exact t
    rw[j,if_neg (by simp)] at a
    simp only[go_sem,t9]
    exact ⟨l.length - (k+1),by omega,k+1,L++[.box 75 (evC v)],rfl,by omega,t1,by rw[a];exact t4,p,t8,zw (by omega) rfl,rfl⟩
  ·have g:(v.kind==7)=false:=by simpa using z
   have j:xV w v=false:=by simp only[xV,g];rfl
   rw[j,if_neg (by simp)] at a
   simp only[go_sem,p,t9,s,o,d,n,gN,y,List.length_map,Int.toNat_natCast,Int.natCast_nonneg,g,zL]
   exact ⟨l.length - (k+1),by omega,k+1,L++[.box 75 (evC v)],rfl,by omega,t1,by rw[a];exact t4,t8,zw (by omega) rfl,rfl⟩
 ·have A:=jk e
  have:k=l.length:=by omega
  subst this
  rw[List.take_length] at t4
  simp only[go_sem,t4]
  (first | refine zc ?_ | refine ze ?_ (by rfl))<;>(simp only[go_sem]<;>try rfl)
set_option maxRecDepth 100000
attribute [go_sem] xPa v4a
theorem c62 (n:Int):jf Tryz.prog 200 [i64 n] (rat (n,1)):=λh=>by
 refine zf Tryz.f200 [.cell 2 24] 5 rfl rfl rfl rfl rfl rfl (by decide) (⟨_,_,⟨rfl,rfl⟩,.refl⟩) λB=>?_
 simp only[go_sem]
 (first | refine zc ?_ | refine ze ?_ (by rfl))<;>(simp only[go_sem]<;>try rfl)
theorem c61 (a b:zy) (f:qa a) (d:qa b):jf Tryz.prog 199 [rat a,rat b] (Qp (vJ [a,b])):=λh=>by
 refine zf Tryz.f199 [.cell 4 24,.tmp 5] 12 rfl rfl rfl rfl rfl rfl (by decide) (⟨_,_,⟨rfl,rfl⟩,.refl⟩) λB=>?_
 simp only[go_sem]
 refine zd (c23 _ _ [a,b] (λp c=>by
  rcases List.mem_cons.1 c with rfl | c
  ·exact f
  ·rw[List.mem_singleton.1 c];exact d) (by simp) ⟨by simp only[go_sem,List.map_cons,List.map_nil,qz],λ_=>by simp only[go_sem]⟩) ?_
 rintro _ g ⟨rfl,e⟩
 subst e
 simp only[go_sem]
 (first | refine zc ?_ | refine ze ?_ (by rfl))<;>(simp only[go_sem]<;>try rfl)
theorem c60 (h:List Ob) (j:Nat) (d:Int) (f:FuncId) (a b:zy) (v:zy × Int) (g:h[j]? =some (.box 37 [i64 d])) (m:∀L,ACalls Tryz.prog f [rat a,rat b] (h++L) λr h'=>r=Qp v/\h'=h++L):
  ACalls Tryz.prog 198 [.fn (.func f) [] [],rat a,rat b,.ptr j 0] h λr h'=>r=rat (if d=0 then v.1 else (0,0))/\h'=h.set j (.box 37 [i64 (if d=0 then v.2 else d)]):=by
 have i:∀M,(h++M)[j]? =some (.box 37 [i64 d]):=λM=>zb g
 have k:∀M o,(h++M).set j o=h.set j o++M:=λM o=>z6 g
 refine zf Tryz.f198 [.cell 7 24] 22 rfl rfl rfl rfl rfl rfl (by decide) (⟨_,_,⟨rfl,rfl⟩,zK g rfl⟩) λB=>?_
 simp only[go_sem,i]
 refine ways (λe=>?_) (λe=>?_)
 ·have e:¬ d=0:=by simpa using e
  simp only[go_sem,i]
  exact ⟨rat (0,0),by simp only[go_sem],.inr ⟨h,_,rfl,rfl,rfl,KeepLt.refl,by rw[if_neg e],by rw[if_neg e,zZ g]⟩⟩
 ·have e:d=0:=by simpa using e
  simp only[go_sem]
  refine zd (m _) ?_
  rintro _ q ⟨rfl,l⟩
  subst l
  have gN:∀o M n,(h.set j o++M)[h.length+n]? =M[n]? :=λo M n=>zl (by simp)
  have p:∀o M n c,(h.set j o++M).set (h.length+n) c=h.set j o++M.set n c:=λo M n c=>by
   rw[List.set_append_right _ _ (by simp),List.length_set,show h.length+n - h.length=n by omega]
  simp only[go_sem,i,k,gN,p,List.set_cons_succ,List.set_cons_zero,List.getElem?_cons_succ,List.getElem?_cons_zero]
  exact ⟨rat v.1,by simp only[go_sem,gN,List.getElem?_cons_succ,List.getElem?_cons_zero],.inr ⟨h.set j _,_,rfl,by simp,rfl,KeepLt.refl.set rfl rfl,by rw[if_pos e],by rw[if_pos e]⟩⟩
set_option maxRecDepth 100000
attribute [go_sem] v6a xRa
def va (p:zy) (t:QO):Bool:= !Xy p (make t.1 100).1
def wN (p:zy):Int->Int->List QO->Int
 | out,_,[]=>out
 | out,i,t::l=>wN p (if va p t then i else out) (i+1) l
def xr (s:Setup) (p:zy):Int:=if zE s && rok p then wN p (-1) 0 s.tiers else -1
theorem c26 (h:List Ob) (s:Setup) (a:SA) (j:SIn h s a) (f:SFit s) (p:zy) (D:qa p):
  ACalls Tryz.prog 59 [qj s a,rat p] h λr h'=>r=i64 (xr s p)/\h'=h:=by
 refine zf Tryz.f59 [.tmp 4] 40 rfl rfl rfl rfl rfl rfl (by decide) (⟨_,_,⟨rfl,rfl⟩,.refl⟩) λB=>?_
 simp only[go_sem,j.w.one,j.e.one,j.c.one,j.g.one,j.r.one,j.t.one]
 refine zd (c16 _ s a (j.app _) f) ?_
 rintro _ C ⟨rfl,n⟩
 subst n
 cases v:zE s with
 | false=>
   simp only[go_sem,v,wJa,Bool.not_true,Bool.not_false]
   (first | refine zc ?_ | refine ze ?_ (by rfl))<;>(simp only[go_sem,xr,v,Bool.false_and]<;>try rfl)
 | true=>
   simp only[go_sem,v,wJa,Bool.not_true,Bool.not_false]
   refine zd (c27 p D.1 D.2 _) ?_
   rintro _ C ⟨rfl,n⟩
   subst n
   cases x:rok p with
   | false=>
     simp only[go_sem,x,Bool.not_true,Bool.not_false]
     (first | refine zc ?_ | refine ze ?_ (by rfl))<;>(simp only[go_sem,xr,v,x,Bool.true_and]<;>try rfl)
   | true=>
     have J:∀M,zo (h++M) a.t=some (s.tiers.map qz):=λM=>(j.app M).t.rows
     simp only[go_sem,x,Bool.not_true,Bool.not_false,J,List.length_map]
     have N:=f.nt
     refine zk (by decide) (λm T h'=>∃(k:Nat) (out:Int) (L:List Ob),h'=h++(.box 30 (zr s a):: .box 24 [i64 p.1,i64 p.2]::L)/\k<=s.tiers.length/\T 3= .ptr (h.length+1) 0/\T 5=i64 out/\T 20=a.t/\T 21=i64 s.tiers.length/\T 22=i64 k/\wN p (-1) 0 s.tiers=wN p out k (s.tiers.drop k)/\m=s.tiers.length - k) s.tiers.length
      ⟨0, -1,[],rfl,by omega,by simp only[go_sem],by (simp only[go_sem]<;>rfl),by simp only[go_sem],by simp only[go_sem],by (simp only[go_sem]<;>rfl),rfl,rfl⟩ ?_
     rintro m T h' ⟨k,out,L,u,O,t3,t5,l,o,t22,y,rfl⟩
     have H:SlOf h' a.t 2 (s.tiers.map qz):=by rw[u];exact j.t.app _
     simp only[go_sem,o,t22]
     refine ways (λe=>?_) (λe=>?_)
     ·have d:=dlt e
      have F:=H.at (i:=k) (by simpa using d)
      have q:(s.tiers.map qz)[k]? =some (qz s.tiers[k]):=by rw[List.getElem?_map,List.getElem?_eq_getElem d];rfl
      have z:=jg d
      have K:∀M,(h'++M)[h.length+1]? =some (.box 24 [i64 p.1,i64 p.2]):=λM=>by rw[u];exact zb (by rw[zl rfl];rfl)
      simp only[go_sem,l,t22,F,H.rows,q,z,qz,List.length_map,Int.toNat_natCast,Int.natCast_nonneg]
      refine zd (c18 s.tiers[k].1 100 (f.tiers _ (List.getElem_mem d)).1 ⟨by decide,by decide⟩ _) ?_
      rintro _ C ⟨rfl,n⟩
      subst n
      simp only[go_sem,t3,K]
      refine zd (c20 p _ D (wF _ _) _) ?_
      rintro _ C ⟨rfl,n⟩
      subst n
      simp only[go_sem]
      have b:wN p out k (s.tiers.drop k)=wN p (if va p s.tiers[k] then (k:Int) else out) ((k+1:Nat):Int) (s.tiers.drop (k+1)):=by
       rw[List.drop_eq_getElem_cons d,wN]
       rfl
      refine ways (λE=>?_) (λE=>?_)
      ·have G:va p s.tiers[k]=true:=E
       rw[G,if_pos rfl] at b
       simp only[go_sem,t22]
       exact ⟨s.tiers.length - (k+1),by omega,k+1,k,L++_,by rw[u];simp only[List.append_assoc,List.cons_append];rfl,by omega,t3,rfl,l,o,zw (by omega) rfl,by rw[y,b],rfl⟩
      ·have G:va p s.tiers[k]=false:=E
       rw[G,if_neg (by simp)] at b
       simp only[go_sem,t22]
       exact ⟨s.tiers.length - (k+1),by omega,k+1,out,L++_,by rw[u];simp only[List.append_assoc,List.cons_append];rfl,by omega,t3,t5,l,o,zw (by omega) rfl,by rw[y,b],rfl⟩
     ·have I:=jk e
      have A:k=s.tiers.length:=by omega
      subst A
      rw[List.drop_length,wN] at y
      subst u
      simp only[go_sem,t5]
      (first | refine zc ?_ | refine ze ?_ (by rfl))<;>(simp only[go_sem,xr,v,x,Bool.true_and,y]<;>try rfl)
end Go.Proofs.YtigdlmpjijhpaaaGreat.Ax
