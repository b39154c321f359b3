/-
  Joined.
-/
import Derived.Test.YtfmldcilgbbimaaGreatK34
import Derived.Test.YtfmldcilgbbimaaGreatK35
import Derived.Test.YtfmldcilgbbimaaGreatK42
import Derived.Test.YtfmldcilgbbimaaGreatK45
import Derived.Test.YtfmldcilgbbimaaGreatK37
import Derived.Test.YtfmldcilgbbimaaGreatK38
import Derived.Test.YtfmldcilgbbimaaGreatK43
import Derived.Test.YtfmldcilgbbimaaGreatK41
set_option linter.unusedSimpArgs false
set_option linter.unusedVariables false
namespace Go.Proofs.YtfmldcilgbbimaaGreat.Ax
open Go Go.RowKit
section
variable {B:Nat} {w w':World} {g g':Gh} {h h' L:List Ob} {P:Program}
theorem Vla (f:HOk B w g h) (hB:B<=w.heap.size) {id:Nat} {ty:TypeId} {cs cs':List AV} (a:h[id]? =some (.box ty cs)) (k:∀vs:List Value,ARs (ctx w g h) cs vs->ARs (ctx w g (h.set id (.box ty cs'))) cs' vs):Good B w g h w g (h.set id (.box ty cs')):=by
 have e:w.grownBy w ((Ob.box ty cs).blk g id):=⟨rfl,rfl,rfl,Nat.le_refl _,λ_ _ _=>rfl⟩
 have d:=Le.turn (g':=g) (o':= .box ty cs') a rfl e (λ_ _=>rfl) (λ_ _=>rfl) (λb c=> .inl c) (λ_=>⟨rfl,λs l=>by cases l⟩)
 obtain ⟨j,vs,i,m⟩:=f.ok id _ a
 exact ⟨f.turn a e (λ_ _=>rfl) (λ_ _=>rfl) (λb c=> .inl c) d ⟨j,vs,i,k _ m⟩,d,Below.refl _ _,hB⟩
theorem w2a (i:HOk B w g h) (hB:B<=w.heap.size) {id:Nat} {ty:TypeId} {cs cs':List AV} (c:h[id]? =some (.box ty cs)) {vs:List Value} (m:∃a:Array Value,w.heap[g.β id]? =some (.cells a ty (0,0))/\a.toList=vs) (l:ARs (ctx w g h) cs' vs):Good B w g h w g (h.set id (.box ty cs')):=by
 have f:w.grownBy w ((Ob.box ty cs).blk g id):=⟨rfl,rfl,rfl,Nat.le_refl _,λ_ _ _=>rfl⟩
 have d:=Le.turn (g':=g) (o':= .box ty cs') c rfl f (λ_ _=>rfl) (λ_ _=>rfl) (λb e=> .inl e) (λ_=>⟨rfl,λs n=>by cases n⟩)
 obtain ⟨k,_⟩:=i.ok id _ c
 obtain ⟨a,j,rfl⟩:=m
 exact ⟨i.turn c f (λ_ _=>rfl) (λ_ _=>rfl) (λb e=> .inl e) d ⟨k,a,j,ARs.le d _ _ l⟩,d,Below.refl _ _,hB⟩
theorem JM {n:Nat}:∀ {a b:List AV},zG n (a++b)=(zG n a && zG n b)
 | [],_=>rfl
 | x::a,b=>by
   rw[List.cons_append,zG,JM,zG,Bool.and_assoc]
theorem zYa {c:Ctx}:∀ {h:List AV} {x:AV} {d:List AV} {us:List Value},ARs c (h++x::d) us->∃b u e,us=b++u::e/\ARs c h b/\AR c x u/\ARs c d e
 | [],x,d,us,⟨u,r,g,f,i⟩=>⟨[],u,r,g,rfl,f,i⟩
 | a::h,x,d,us,⟨u,r,g,f,i⟩=>by
   obtain ⟨b,v,e,j,k,m,l⟩:=zYa i
   subst j
   exact ⟨u::b,v,e,g,⟨u,b,rfl,f,k⟩,m,l⟩
theorem kya {c:Ctx}:∀ {i:List AV} {x:AV} {f:List AV} {b d:List Value} {u:Value},ARs c i b->AR c x u->ARs c f d->ARs c (i++x::f) (b++u::d)
 | [],x,f,b,d,u,h,g,j=>by
   have h:b=[]:=h
   subst h
   exact ⟨u,d,rfl,g,j⟩
 | a::i,x,f,b,d,u,⟨v,r,e,k1,k2⟩,g,j=>by
   subst e
   exact ⟨v,_,rfl,k1,kya k2 g j⟩
theorem Qsa {n:Nat} {d:Nat} {o:Ob} (a:∀p∈h,Xz n p=true) (b:Xz n o=true):∀p∈h.set d o,Xz n p=true:=qpa a b
theorem wl {f:FuncId} {ar:List AV} {d:Nat} {ty:TypeId} {e cs:List AV} (j:h[d]? =some (.box ty e)) (k:∀n,zG n e=true->zG n cs=true) (c:ACalls P f ar h λr h'=>r= .tup []/\∃L,h'=h.set d (.box ty cs)++L/\NoRes L):
  ACalls P f ar h λr h'=>r= .tup []/\h'=h.set d (.box ty cs):=by
 refine ⟨c.1,⟨_,_,⟨rfl,rfl⟩,zC j rfl⟩,λφ q B w g vs p hB i=>?_⟩
 refine (c.2.2 φ q B w g vs p hB i).mono λz w' ⟨v,r,h',g',x,⟨y,L,u,_⟩,_,m,o⟩=>?_
 subst y u
 have l:Upto φ (h.set d (.box ty cs)).length:=by rw[List.length_set];exact q
 rw[qR l,qn rfl] at m o
 have hid:=p.ids
 have b:=hid _ (List.mem_of_getElem? (zN (φ:=φ) j rfl))
 have b:zG (fill φ h).length e=true:=b
 have a:((fill φ h).set d (.box ty cs)).length=(fill φ h).length:=List.length_set
 refine ⟨v,_,_,g',x,⟨rfl,rfl⟩,zC j rfl,?_,?_⟩
 ·rw[qn rfl]
  exact m.drop a (by rw[a];exact Qsa hid (k _ b))
 ·obtain ⟨us,s,t⟩:=o
  exact ⟨us,s,t⟩
theorem xY {f:FuncId} {ar:List AV} {d:Nat} {ty:TypeId} {o j i:List AV} {e:Nat} {rows:List (List AV)} (he:0<e) (Q:h[d]? =some (.box ty o)) (E:∀n,zG n o=true->zG n j=true/\zG n i=true) (hr:∀n,zU n rows=true)
  (c:ACalls P f ar h λr h'=>r= .tup []/\∃L x,h'=h.set d (.box ty (j++x::i))++L/\NoRes L/\New h e x rows L):
  ACalls P f ar h λr h'=>r= .tup []/\h'=h.set d (.box ty (j++ .sl e rows::i)):=by
 refine ⟨c.1,⟨_,_,⟨rfl,rfl⟩,zC Q rfl⟩,λφ S B w g vs R hB p=>?_⟩
 refine (c.2.2 φ S B w g vs R hB p).mono λe' w' ⟨v,r,h',g',e1,⟨e2,L,x,X,_,m⟩,_,z,D⟩=>?_
 subst e2 X
 have I:Upto φ (h.set d (.box ty (j++x::i))).length:=by rw[List.length_set];exact S
 rw[qR I,qn rfl] at z D
 have hid:=R.ids
 have q:=zN (φ:=φ) Q rfl
 have t:=hid _ (List.mem_of_getElem? q)
 have t:zG (fill φ h).length o=true:=t
 obtain ⟨k1,k2⟩:=E _ t
 obtain ⟨H,M⟩:∃H,H=fill φ h:=⟨_,rfl⟩
 have A:H.length=h.length:=by rw[M,qm]
 rw[<-M] at z D hid q k1 k2 R⊢
 have l:d<H.length:=(List.getElem?_eq_some_iff.1 q).1
 have F:(H.set d (.box ty (j++x::i))++L)[d]? =some (.box ty (j++x::i)):=by rw[List.getElem?_append_left (by rw[List.length_set];exact l),List.getElem?_set_self l]
 obtain ⟨b1,K,b2,b3⟩:=z.ok.ok _ _ F
 obtain ⟨u1,u,Z,c1,c2,c3,Y⟩:=zYa b3
 have y:=Vla z.ok z.size F (cs':=j++ .bad::i) λvs hv=>by
  have T:Le (ctx w' g' (H.set d (.box ty (j++x::i))++L)) (ctx w' g' ((H.set d (.box ty (j++x::i))++L).set d (.box ty (j++ .bad::i)))):=
   Le.turn (g':=g') (o':= .box ty (j++ .bad::i)) F rfl ⟨rfl,rfl,rfl,Nat.le_refl _,λ_ _ _=>rfl⟩ (λ_ _=>rfl) (λ_ _=>rfl) (λb hb=> .inl hb) (λ_=>⟨rfl,λs hs=>by cases hs⟩)
  obtain ⟨a1,a,a2,V,z2,z3,z4⟩:=zYa hv
  rw[V]
  exact kya (ARs.le T _ _ z2) trivial (ARs.le T _ _ z4)
 have C:(H.set d (.box ty (j++x::i))++L).set d (.box ty (j++ .bad::i))=H.set d (.box ty (j++ .bad::i))++L:=by
  rw[List.set_append_left _ _ (by rw[List.length_set];exact l),List.set_set]
 rw[C] at y
 have G2:=z.trans y
 have k:(H.set d (.box ty (j++ .bad::i))).length=H.length:=List.length_set
 have J:=G2.drop k (by
  rw[k]
  refine Qsa hid ?_
  show zG H.length (j++ .bad::i)=true
  rw[JM,zG,k1,k2];rfl)
 have G:SlOf (H.set d (.box ty (j++ .bad::i))++L) x e rows:=m _ (by rw[k,A])
 have O:AR (ctx w' g' (H.set d (.box ty (j++ .bad::i))++L)) x u:=AR.le y.le _ _ c3
 have N:=Qi y.ok he O G (λid hid=>by rw[k,A];exact m.root id hid) (hr _)
 have g3:(H.set d (.box ty (j++ .bad::i)))[d]? =some (.box ty (j++ .bad::i)):=List.getElem?_set_self l
 have U:=w2a J.ok J.size g3 (cs':=j++ .sl e rows::i) (vs:=u1++u::Z) ⟨K,b2,c1⟩ (by
  refine kya ?_ N ?_
  ·exact ARs.less (xx w' g' _ L) _ _ (by rw[k];exact k1) (ARs.le y.le _ _ c2)
  ·exact ARs.less (xx w' g' _ L) _ _ (by rw[k];exact k2) (ARs.le y.le _ _ Y))
 rw[List.set_set] at U
 refine ⟨v,_,_,g',e1,⟨rfl,rfl⟩,zC Q rfl,?_,?_⟩
 ·rw[qn rfl, <-M]
  exact J.trans U
 ·obtain ⟨us,W,q2⟩:=D
  exact ⟨us,W,q2⟩
end
end Go.Proofs.YtfmldcilgbbimaaGreat.Ax
namespace Go.Proofs.YtfmldcilgbbimaaGreat.Ax
open Go Go.Proofs
set_option maxRecDepth 100000
abbrev zZa (l:List Int) (st:Nat):Ob:= .row 3 1 (l.map zz) st
theorem WQ (e:Int):XH (zz e)=e:=rfl
theorem WR {l:List Int} {i:Nat} {e:Int} (h:l[i]? =some e):(l.map zz)[i]? =some (zz e):=by rw[List.getElem?_map,h];rfl
theorem w3a (p:Int->Bool) (l:List Int):(Z4 (l.map zz) (λr=>p (XH r))= -1/\∀e∈l,p e=false)∨∃A x R,l=A++x::R/\Z4 (l.map zz) (λr=>p (XH r))=(A.length:Int)/\p x=true/\∀e∈A,p e=false:=by
 by_cases h:∀e∈l,p e=false
 ·refine .inl ⟨vt λj b=>?_,h⟩
  rw[List.getElem_map,WQ]
  exact h _ (List.getElem_mem _)
 ·right
  induction l with
  | nil=>exact absurd (λe a=>by cases a) h
  | cons y l g=>
    cases c:p y with
    | true=>exact ⟨[],y,l,rfl,kY (rows:=(y::l).map zz) (k:=0) (by simp) (λj b=>by omega) c,c,λe a=>by cases a⟩
    | false=>
      obtain ⟨A,x,R,rfl,m,d,i⟩:=g (λq=>h λe a=>by
       rcases List.mem_cons.1 a with rfl | a
       ·exact c
       ·exact q e a)
      have f:∀e∈y::A,p e=false:=λe a=>by
       rcases List.mem_cons.1 a with rfl | a
       ·exact c
       ·exact i e a
      refine ⟨y::A,x,R,rfl,?_,d,f⟩
      refine kY (by simp) (λj b=>?_) ?_
      ·rw[List.getElem_map,WQ]
       have:(y::(A++x::R))[j]'(by simp at b ⊢;omega)=(y::A)[j]:=by
        have q:((y::A)++x::R)[j]'(by simp at b ⊢;omega)=(y::A)[j]:=List.getElem_append_left b
        exact q
       rw[this]
       exact f _ (List.getElem_mem _)
      ·rw[List.getElem_map,WQ]
       have:(y::(A++x::R))[(y::A).length]'(by simp)=x:=by
        rw[List.getElem_of_eq (show y::(A++x::R)=(y::A)++x::R from rfl),List.getElem_append_right (Nat.le_refl _)]
        simp
       rw[this]
       exact d
theorem WS {p:Int->Bool} {l:List Int} (h:∀e∈l,p e=false):l.filter (λe=> !p e)=l:=List.filter_eq_self.2 λe a=>by simp[h e a]
theorem Xka (h:List Ob) (id st:Nat) (l:List Int) (f:FuncId) (cs:List AV) (p:Int->Bool) (i:h[id]? =some (zZa l st)) (hl:l.length<1048576) (Y:∀e∈l,∀o L,ACalls Tryz.prog f ([i64 e]++cs) (h.set id o++L) λr h'=>r=bl (p e)/\h'=h.set id o++L):
  ACalls Tryz.prog 152 [.tl id st,.fn (.func f) [] cs] h λr h'=>∃l2,h'=h.set id (zZa l2 st)/\(r= .tl id st∨∃n,r= .vw (.tl id st) 1 0 n)/\SlOf h' r 1 ((l.filter λe=> !p e).map zz):=by
 have hex:∃r h',(∃l2,h'=h.set id (zZa l2 st)/\(r=AV.tl id st∨∃n,r= .vw (.tl id st) 1 0 n)/\SlOf h' r 1 ((l.filter λe=> !p e).map zz))/\ResK h h':=
  ⟨.tl id st,_,⟨l.filter λe=> !p e,rfl,.inl rfl,by rw[zX,zh i,jV,if_pos rfl],λ_=>by rw[qE,zh i,km]⟩,zC i rfl⟩
 have W:SlOf h (.tl id st) 1 (l.map zz):=⟨by rw[zX,i,jV,if_pos rfl],λ_=>by rw[qE,i,km]⟩
 have O:wJ h f cs Jga (l.map zz) (λr=>p (XH r)):=λrow G L=>by
  obtain ⟨e,he,rfl⟩:=List.mem_map.1 G
  have:=Y e he (zZa l st) L
  rw[zT i] at this
  exact this
 refine zf Tryz.f152 [.tmp 4] 42 rfl rfl rfl rfl rfl rfl (by decide) (hex) λB=>?_
 simp only[go_sem]
 refine zc (Wda h _ f cs _ _ (by rw[List.length_map];omega) (λr hr=>by obtain ⟨e,_,rfl⟩:=List.mem_map.1 hr;rfl) W O) ?_
 rintro _ u ⟨rfl,e1⟩
 subst e1
 rcases w3a p l with ⟨I,N⟩ | ⟨A,x,R,rfl,I,N,q3⟩
 ·rw[I]
  simp only[go_sem]
  exact ⟨.tl id st,by simp only[go_sem],.inl ⟨l,(zT i).symm,.inl rfl,by rw[WS N];exact W⟩⟩
 ·rw[I]
  have U:((A.length:Int)== -1)=false:=by simp
  simp only[List.length_append,List.length_cons] at hl
  have w1:wr ((A.length:Int)+1)=((A.length+1:Nat):Int):=jk (by omega)
  have w:((A++[x]).filter λe=> !p e)=A:=by rw[List.filter_append,WS q3];simp[N]
  simp only[go_sem,U,w1]
  refine zj (by decide) (λn T h'=>∃(P X c:List Int) (L:List Ob),P++c=A++x::R/\(P.filter λe=> !p e).length+X.length=P.length/\0<X.length/\h'=u.set id (zZa ((P.filter λe=> !p e)++(X++c)) st)++L/\T 0= .tl id st/\T 1= .fn (.func f) [] cs/\T 5=i64 (P.filter λe=> !p e).length/\T 6=i64 P.length/\n=c.length) R.length
   ⟨A++[x],[x],R,[],by simp,by rw[w];simp,by simp,by rw[w,List.append_nil];exact (zT i).symm,by simp only[go_sem],by simp only[go_sem],by (simp only[go_sem]<;>rw[w]),by (simp only[go_sem]<;>simp),rfl⟩ ?_
  rintro n T h' ⟨P,X,c,L,k,S,J,rfl,t0,t1,t5,t6,rfl⟩
  have H:∀M o,(u.set id o++M)[id]? =some o:=λM o=>zb (zh i)
  have D:=congrArg List.length k
  simp only[List.length_append,List.length_cons] at D
  simp only[go_sem,t6,t0,H,List.length_map,List.length_append]
  refine ways (λe=>?_) (λe=>?_)
  ·have g:=dlt e
   cases c with
   | nil=>first | omega | (simp at g;omega) | (simp at g)
   | cons v c=>
   simp only[List.length_cons] at g D
   obtain ⟨a,j⟩:∃a,a=P.filter λe=> !p e:=⟨_,rfl⟩
   rw[<-j] at S t5 g⊢
   have hv:v∈A++x::R:=by rw[<-k];simp
   have Q:(a++(X++v::c))[P.length]? =some v:=by
    rw[<-List.append_assoc]
    rw[List.getElem?_append_right (by rw[List.length_append];omega),show P.length - (a++X).length=0 by rw[List.length_append];omega]
    rfl
   have Z:((a++(X++v::c)).map zz)[P.length]? =some [i64 v]:=WR Q
   have la:(P.length:Int)<((a.length+(X.length+(c.length+1)):Nat):Int):=by omega
   have V:wr ((P.length:Int)+1)=((P.length+1:Nat):Int):=jk (by omega)
   have w3:wr ((a.length:Int)+1)=((a.length+1:Nat):Int):=jk (by omega)
   obtain ⟨C,q⟩:∃C,C=a++(X++v::c):=⟨_,rfl⟩
   rw[<-q] at Z⊢
   have m:C.length=a.length+(X.length+(c.length+1)):=by rw[q];simp
   simp only[go_sem,t6,t0,t1,H,Z,la,m,List.length_map,Int.toNat_natCast,Int.natCast_nonneg]
   refine zc (Y v hv _ _) ?_
   rintro _ h3 ⟨rfl,e3⟩
   subst e3
   simp only[go_sem]
   have s:(P++[v])++c=A++x::R:=by rw[<-k];simp
   refine ways (λy=>?_) (λy=>?_)
   ·have y:p v=false:=by simpa using y
    have d:((P++[v]).filter λe=> !p e)=a++[v]:=by rw[List.filter_append, <-j];simp[y]
    cases X with
    | nil=>simp at J
    | cons x0 X=>
    have E:C=a++x0::(X++v::c):=q
    have rb:(C.map zz)[a.length]? =some [i64 x0]:=WR (by rw[E];simp)
    have K:∀M o t,(u.set id o++M).set id t=u.set id t++M:=λM o t=>by
     rw[qd (zh i),List.set_set]
    have lb:(a.length:Int)<((a.length+(X.length+1+(c.length+1)):Nat):Int):=by omega
    have F:(C.map zz).set a.length [i64 v]=(a++v::(X++v::c)).map zz:=by
     show (C.map zz).set a.length (zz v)=_
     rw[<-List.map_set,E,List.set_append_right _ _ (Nat.le_refl _),Nat.sub_self]
     rfl
    have hq:(a++[v])++((X++[v])++c)=a++v::(X++v::c):=by simp
    simp only[go_sem,K,rb,lb,m,List.length_map,Int.toNat_natCast,Int.natCast_nonneg,t0,t1,t5,t6,H,V,w3,F]
    exact ⟨c.length,by simp,P++[v],X++[v],c,L,s,by rw[d];simp at S ⊢;omega,by simp,by rw[d,hq],by rw[d];exact qN (by simp),qN (by simp),rfl⟩
   ·have y:p v=true:=by simpa using y
    have d:((P++[v]).filter λe=> !p e)=a:=by rw[List.filter_append, <-j];simp[y]
    simp only[go_sem,t6,V]
    exact ⟨c.length,by simp,P++[v],X++[v],c,L,s,by rw[d];simp;omega,by simp,by rw[d,q];simp,t0,t1,by rw[d];exact t5,qN (by simp),rfl⟩
  ·have φ:=qU e
   have hR:c=[]:=List.eq_nil_of_length_eq_zero (by omega)
   subst hR
   rw[List.append_nil] at k
   subst k
   obtain ⟨a,j⟩:∃a,a=(A++x::R).filter λe=> !p e:=⟨_,rfl⟩
   rw[<-j] at t5 S⊢
   have f0:(0:Int)<=(a.length:Int):=by omega
   have f1:(a.length:Int)<=((a.length+X.length:Nat):Int):=by omega
   have f2:a.length+X.length - a.length=X.length:=by omega
   have K:∀M o t,(u.set id o++M).set id t=u.set id t++M:=λM o t=>by
    rw[qd (zh i),List.set_set]
   have hz:List.take a.length ((a++X).map zz)++(List.replicate X.length ([i64 0]:List AV)++List.drop (a.length+X.length) ((a++X).map zz))=(a++List.replicate X.length (0:Int)).map zz:=by
    rw[List.drop_of_length_le (by simp),List.append_nil,List.map_append,List.map_append,List.take_append_of_le_length (by simp),List.take_of_length_le (by simp),List.map_replicate]
    rfl
   have f3:((a.length:Nat):Int)<=((a.length+X.length:Nat):Int):=f1
   simp only[go_sem,t0,t5,H,K,hz,List.length_map,List.length_append,List.length_replicate,f0,f1,f2,Int.toNat_natCast,true_and,or_true,Int.le_refl,Nat.le_refl,Option.bind_some,List.length_replicate,List.all_replicate,ite_self,Nat.sub_zero]
   have g:=(List.getElem?_eq_some_iff.1 i).1
   refine ⟨.vw (.tl id st) 1 0 a.length,by simp only[go_sem],.inr ⟨u.set id _,L,rfl,by simp,by simp[AV.lt,g],KeepLt.refl.set rfl (wg _),⟨_,rfl,.inr ⟨_,rfl⟩,?_⟩⟩⟩
   have z:=zh (b:=zZa (a++List.replicate X.length (0:Int)) st) i
   refine ⟨?_,λ_=>?_⟩
   ·rw[xy,zX,z,jV,if_pos rfl,Option.bind_some,if_pos ⟨by simp,.inr (by rw[qE,z,km])⟩]
    simp
   ·rw[Ze,qE,z,km]
    rfl
set_option maxRecDepth 100000
def xN (p:RowV × List Flg):List AV:=Qu p.1++[.sl 2 (p.2.map xv)]
theorem Xv {n:Nat}:∀l:List (RowV × List Flg),zU n (l.map xN)=true
 | []=>rfl
 | p::l=>by
   rw[List.map_cons,zU,Xv l]
   simp only[xN,Qu,List.cons_append,List.nil_append,zG,AV.lt,zOa,Bool.and_self]
structure DE (h:List Ob) (d:Nat) (mk:AV->Ob) (y:AV) (rows:List (List AV)) (H:List Ob):Prop where
 eq:∃M,H=h.set d (mk y)++M/\NoRes M
 own:OwnS h H 45 27 y rows
theorem DE.base {h:List Ob} {d:Nat} {mk:AV->Ob}:DE h d mk (.v (.slice none 0 0)) [] (h.set d (mk (.v (.slice none 0 0)))):=⟨⟨[],by rw[List.append_nil],qh⟩,.inl ⟨rfl,rfl⟩⟩
theorem DE.one {h:List Ob} {d:Nat} {mk:AV->Ob} {y y':AV} {rows rows':List (List AV)} {H:List Ob} (k:DE h d mk y rows H) (c:d<h.length) {N:List Ob} (b:NoRes N) (a:OwnS h ((H++N).set d (mk y')) 45 27 y' rows'):DE h d mk y' rows' ((H++N).set d (mk y')):=by
 obtain ⟨M,e,f⟩:=k.eq
 refine ⟨⟨M++N,?_,λo a=>?_⟩,a⟩
 ·rw[e,List.append_assoc,List.set_append_left _ _ (by rw[List.length_set];exact c),List.set_set]
 ·rcases List.mem_append.1 a with a | a
  ·exact f o a
  ·exact b o a
theorem DE.two {h:List Ob} {d:Nat} {mk:AV->Ob} {y y':AV} {rows rows':List (List AV)} {H:List Ob} (k:DE h d mk y rows H) (f:d<h.length) {N:List Ob} (e:NoRes N) {id:Nat} {o:Ob} (hid:h.length<=id) (b:o.isRes=false) (c:OwnS h (((H++N).set id o).set d (mk y')) 45 27 y' rows'):DE h d mk y' rows' (((H++N).set id o).set d (mk y')):=by
 obtain ⟨M,g,i⟩:=k.eq
 refine ⟨⟨(M++N).set (id - h.length) o,?_,λp a=>?_⟩,c⟩
 ·rw[g,List.append_assoc,List.set_append_right _ _ (by rw[List.length_set];exact hid),List.length_set,List.set_append_left _ _ (by rw[List.length_set];exact f),List.set_set]
 ·rcases List.mem_or_eq_of_mem_set a with a | a
  ·rcases List.mem_append.1 a with a | a
   ·exact i p a
   ·exact e p a
  ·rw[a];exact b
section
variable {h:List Ob} {d:Nat} {s:Setup} {a:SA} {x c:AV} {segs:AV} {q:Cm}
theorem Qta {s:Setup} (f:SFit s) (p:zF):Fit (ku s p)/\Fit (ku s p+1):=by
 have g: -1<=ku s p/\ku s p<9223372036854775807:=by
  cases b:zw s
  ·have:ku s p= -1:=by simp[ku,b]
   omega
  ·cases a:rok p
   ·have:ku s p= -1:=by simp[ku,a]
    omega
   ·rcases Jya b a with ⟨e,_⟩ | ⟨j,t,c,d,_⟩
    ·omega
    ·have:=(List.getElem?_eq_some_iff.1 c).1
     have:=f.nt
     omega
 constructor<;>(unfold Fit;omega)
theorem jRa {s:Setup} (f:SFit s) (l:List Ev) (w wk:Int) (c:l.length<=1000):(Fit (zW s l w wk).1.tier/\Fit ((zW s l w wk).1.tier+1))/\(zW s l w wk).2.length<524288:=by
 unfold zW
 split
 ·exact ⟨by constructor<;>(show Fit _;unfold Fit;first | exact (by decide:(-9223372036854775808:Int)<= -1/\(-1:Int)<=9223372036854775807) | exact (by decide:(-9223372036854775808:Int)<= -1+1/\(-1+1:Int)<=9223372036854775807)),by show 0<524288;decide⟩
 ·constructor
  ·show Fit (ite _ (ku s _) (-1))/\Fit (ite _ (ku s _) (-1)+1)
   split
   ·exact Qta f _
   ·constructor<;>(unfold Fit;decide)
  ·have a:= @KJ s (evR s w l) w
   have b:(evR s w l).length<=l.length:=vha s w l
   have d:=List.length_filter_le (λg=>ZH (evR s w l) g==wk) (zM s (evR s w l) w).2
   show (List.filter _ _).length<_
   omega
theorem Kl {s:Setup} {b:Bk} {wk:Int}:(ju s b wk).length=s.rates.length:=by rw[ju,List.length_map,List.length_range]
theorem kza {s:Setup} {b:Bk} {wk:Int} {n:Nat} (h:n<s.rates.length):((ju s b wk).take (n+1)).map xN=((ju s b wk).take n).map xN++[xN (zW s b.evs (n:Int) wk)]:=by
 have a:n<(ju s b wk).length:=by rw[Kl];exact h
 rw[show (ju s b wk).take (n+1)=(ju s b wk).take n++[(ju s b wk)[n]] from (List.take_append_getElem a).symm,List.map_append]
 simp[ju]
theorem Qua (i:h[d]? =some (.box 145 (zK s a x c 0 (.v (.slice none 0 0)) segs (.v (.slice none 0 0)) q))) (k:SIn h s a) (f:SFit s) (b:Bk) (hx:SlOf h x 11 (b.evs.map evC)) (Y:b.evs.length<=1000) (hc:SlOf h c 1 (b.shut.map zz)) (U:b.shut.length<1048576) (P:s.rates.length<4096):
  ACalls Tryz.prog 78 [.ptr d 0] h λr h'=>r= .tup []/\∃L y,h'=h.set d (.box 145 (zK s a x c (if qB b.shut q.week then 0 else 212) y segs (if qB b.shut q.week then .sl 1 ((kw (ju s b q.week)).1.map je) else .v (.slice none 0 0)) q))++L/\NoRes L/\
   New h 27 y ((if qB b.shut q.week then ju s b q.week else []).map xN) L:=by
 have hex:∃r h',(r=AV.tup []/\∃L y,h'=h.set d (.box 145 (zK s a x c (if qB b.shut q.week then 0 else 212) y segs (if qB b.shut q.week then .sl 1 ((kw (ju s b q.week)).1.map je) else .v (.slice none 0 0)) q))++L/\NoRes L/\
   New h 27 y ((if qB b.shut q.week then ju s b q.week else []).map xN) L)/\ResK h h':=
  ⟨_,_,⟨rfl,[],.sl 27 _,rfl,qh,λ_ _=>⟨rfl,λ_=>rfl⟩⟩,by rw[List.append_nil];exact zC i rfl⟩
 refine zf Tryz.f78 [] 64 rfl rfl rfl rfl rfl rfl (by decide) (hex) λB=>?_
 simp only[go_sem,i]
 refine zc (K7 i b.shut hc U q.week) ?_
 rintro _ h1 ⟨rfl,e1⟩
 rw[e1,show b.shut.any (q.week== ·)=qB b.shut q.week from rfl]
 simp only[go_sem]
 refine zc (Qy i (qB b.shut q.week) 212) ?_
 rintro _ X ⟨rfl,rfl⟩
 cases δ:qB b.shut q.week
 ·rw[show qH 0 false 212=212 from rfl]
  simp only[go_sem]
  exact ⟨_,rfl,.inl ⟨rfl,[],_,by rw[List.append_nil],qh,λ_ _=>⟨rfl,λq=>absurd rfl q⟩⟩⟩
 ·rw[show qH 0 true 212=0 from rfl,zT i]
  have z:=(List.getElem?_eq_some_iff.1 i).1
  simp only[go_sem,i,k.r.rows,List.length_map]
  refine zj (by decide) (λm T H=>∃(n:Nat) (y:AV),n<=s.rates.length/\DE h d (λy=> .box 145 (zK s a x c 0 y segs (.v (.slice none 0 0)) q)) y (((ju s b q.week).take n).map xN) H/\T 0= .ptr d 0/\T 18=i64 s.rates.length/\T 19=i64 n/\m=s.rates.length - n) s.rates.length
   ⟨0,_,by omega,by have:=DE.base (h:=h) (d:=d) (mk:=λy=> .box 145 (zK s a x c 0 y segs (.v (.slice none 0 0)) q));rw[zT i] at this;exact this,by simp only[go_sem],by (simp only[go_sem]<;>rfl),by (simp only[go_sem]<;>rfl),rfl⟩ ?_
  rintro m T H ⟨n,y,hn,A,t0,R,j,rfl⟩
  simp only[go_sem,R,j]
  have I:=zh (b:=Ob.box 145 (zK s a x c 0 y segs (.v (.slice none 0 0)) q)) i
  obtain ⟨M,C,hM⟩:=A.eq
  have o:H[d]? =some (.box 145 (zK s a x c 0 y segs (.v (.slice none 0 0)) q)):=by rw[C];exact zb I
  have kk:RowsK h H:=by rw[C];exact λid ty e xs st hh=>zb (RowsK.setB i id ty e xs st hh)
  have k3:=k.keep kk
  have O:=hx.keep kk
  have η:h.length<=H.length:=by rw[C];simp
  refine ways (λe=>?_) (λe=>?_)
  ·have K:=dlt e
   simp only[go_sem]
   refine zn rfl [.res] 1 [(0,0,[]),(1,0,[]),(2,0,[]),(3,0,[]),(4,0,[]),(6,0,[]),(7,0,[]),(8,0,[]),(9,0,[]),(11,0,[]),(12,0,[]),(13,0,[]),(14,0,[]),(16,0,[]),(17,0,[]),(18,0,[]),(19,0,[]),(20,0,[]),(5,0,[]),(10,0,[]),(15,0,[]),(21,0,[]),(22,0,[5]),(23,0,[]),(24,0,[]),(25,0,[]),(26,0,[]),(27,0,[]),(28,0,[])] rfl (by decide) (by decide) ?_
   have g:∀M,(H++M)[d]? =some (.box 145 (zK s a x c 0 y segs (.v (.slice none 0 0)) q)):=λM=>zb o
   simp only[go_sem,g,t0,j]
   refine zc (WJa _ s a (k3.app _) f x b.evs n q.week (O.app _) Y) ?_
   rintro _ h3 ⟨rfl,N⟩
   rw[N]
   have u:=kza (s:=s) (b:=b) (wk:=q.week) K
   obtain ⟨W,hW⟩:∃W,W=zW s b.evs n q.week:=⟨_,rfl⟩
   rw[<-hW] at u⊢
   rcases A.own with ⟨rfl,F⟩ | ⟨id,st,Z,rfl,u3⟩
   ·simp only[go_sem,g,j,Qu,List.cons_append,List.nil_append]
    refine ⟨s.rates.length - (n+1),by omega,n+1,.tl (H.length+1) 0,by omega,?_,by assumption,by assumption,zx (by omega) rfl,rfl⟩
    refine A.one z (zg rfl (zi rfl)) ?_
    refine OwnS.setB (.inr ⟨_,0,by omega,rfl,?_⟩) (g _)
    rw[u,F,zm (k:=1) rfl];rfl
   ·have D:∀M,(H++M)[id]? =some (.row 45 27 (((ju s b q.week).take n).map xN) st):=λM=>zb u3
    have G:((((ju s b q.week).take n).map xN).length+1)*233<=140737488355328:=by
     rw[List.length_map,List.length_take]
     omega
    have l:∀M o',((H++M).set id o')[d]? =some (.box 145 (zK s a x c 0 (.tl id st) segs (.v (.slice none 0 0)) q)):=λM o'=>by
     rw[List.getElem?_set_ne (by omega)];exact g M
    simp only[go_sem,g,j,D,G,l,Qu,List.cons_append,List.nil_append]
    refine ⟨s.rates.length - (n+1),by omega,n+1,.tl id (st+1),by omega,?_,by assumption,by assumption,zx (by omega) rfl,rfl⟩
    refine A.two z (zi rfl) Z rfl ?_
    refine OwnS.setB (.inr ⟨id,st+1,Z,rfl,?_⟩) (l _ _)
    rw[u]
    exact zh (D _)
  ·have ν:=qU e
   have S:n=s.rates.length:=by omega
   subst S
   have Q:(ju s b q.week).take s.rates.length=ju s b q.week:=by rw[<-Kl (s:=s) (b:=b) (wk:=q.week),List.take_length]
   rw[Q] at A
   simp only[go_sem,t0,o]
   have J:(ju s b q.week).map xN=((ju s b q.week).map λp:RowV × List Flg=>(⟨p.1,.sl 2 (p.2.map xv),p.2⟩:RwA)).map λq=>xM q.1 q.2.1:=by rw[List.map_map];rfl
   have t:xc ((ju s b q.week).map λp:RowV × List Flg=>(⟨p.1,.sl 2 (p.2.map xv),p.2⟩:RwA))=ju s b q.week:=by rw[xc,List.map_map];exact List.map_id _
   refine zc (K6a H y _ (by rw[<-J];exact A.own.rows) (λp hp=>by
    obtain ⟨r,hr,rfl⟩:=List.mem_map.1 hp
    obtain ⟨w,_,rfl⟩:=List.mem_map.1 hr
    have:=jRa f b.evs (w:Int) q.week Y
    exact ⟨⟨rfl,λ_=>rfl⟩,this.1,this.2⟩) (by rw[List.length_map,Kl];exact P)) ?_
   rintro _ h3 ⟨rfl,N⟩
   rw[N,t]
   simp only[go_sem,o]
   have E:New h 27 y ((ju s b q.week).map xN) M:=by
    have V:=A.own
    rw[C] at V
    have:=V.new (by rw[List.length_set];exact Nat.le_refl _)
    exact λX e=>this X (by rw[e,List.length_set])
   refine ⟨_,rfl,.inl ⟨rfl,M,y,?_,hM,E⟩⟩
   rw[C,List.set_append_left _ _ (by rw[List.length_set];exact z),List.set_set]
end
end Go.Proofs.YtfmldcilgbbimaaGreat.Ax
namespace Go.Proofs.YtfmldcilgbbimaaGreat.Ax
open Go Go.Proofs Go.Shelf Go.RowKit Go.Lib Go.Sort
set_option maxRecDepth 100000
def Q6 (x:Int):List Value:=[.int .i64 x]
theorem W4a (d:Array Int) (j:Nat) (h:j<d.size):(flatK Q6 1 d)[j]! = .int .i64 d[j]! :=by
 rw[get_flatK _ _ _ _ (by omega),Nat.div_one,Nat.mod_one];rfl
theorem Qva (w:World) (blk off:Nat) (d:Array Int):putRow (Value.int .i64) w blk off d=putRow id w blk off (flatK Q6 1 d):=by
 have:putCells (Value.int .i64) off d=putCells id off (flatK Q6 1 d):=by
  funext c
  unfold putCells
  apply Array.ext_getElem?
  intro k
  simp only[Array.getElem?_mapIdx,size_flatK,Nat.mul_one,id]
  cases c[k]? with
  | none=>rfl
  | some y=>
    simp only[Option.map_some]
    by_cases a:off<=k/\k<off+d.size
    ·rw[if_pos a,if_pos a,W4a d _ (by omega)]
    ·rw[if_neg a,if_neg a]
 unfold putRow
 rw[this]
theorem kAa {n:Int} {l:List Int} (g:n∉l) (h:l.Pairwise (· < ·)):(l++[n]).mergeSort (λx y=>decide (x<=y))=QC n l:=by
 have f:=List.mergeSort_perm (l++[n]) (λx y:Int=>decide (x<=y))
 have d:=List.pairwise_mergeSort (le:=λx y:Int=>decide (x<=y)) (λa b c p q=>by
  simp only[decide_eq_true_eq] at *; omega) (λa b=>by
  simp only[Bool.or_eq_true,decide_eq_true_eq];omega) (l++[n])
 have i:=Kg g h
 have e:((l++[n]).mergeSort λx y=>decide (x<=y)).Perm (QC n l):=f.trans ((List.perm_append_comm).trans (YX n l).symm)
 refine List.Perm.eq_of_pairwise (le:=λa b:Int=>a<=b) (λa b _ _ p q=>by omega) ?_ ?_ e
 ·exact d.imp λp=>by simpa using p
 ·exact i.imp λp=>by omega
theorem Qwa (h:List Ob) (id st:Nat) (l:List Int) (A:h[id]? =some (.row 3 1 (l.map zz) st)) (Z:l.length<1099511627776) (F:l≠[]):
  ACalls Tryz.prog 151 [.tl id st] h λr h'=>r= .tup []/\h'=h.set id (.row 3 1 ((l.mergeSort λx y=>decide (x<=y)).map zz) st):=by
 refine ⟨by kernel_rfl,⟨_,_,⟨rfl,rfl⟩,zC A rfl⟩,?_⟩
 intro φ Y B w g vs M hB i
 have k:(fill φ h)[id]? =some (.row 3 1 (l.map λx=>(Q6 x).map .v) st):=zN A rfl
 obtain ⟨v1,T,rfl,⟨_,E,p⟩,H⟩:=i
 have H:T=[]:=H
 subst H
 have N:v1=g.cur id:=(p st (by simp[ctx,k,Ob.tok])).2 rfl
 obtain ⟨X,W,cells,O,J⟩:=M.ok id _ k
 rw[Wr] at J
 have Q:=Xi J
 subst Q
 have c:∀x,(Q6 x).length=1:=λ_=>rfl
 rcases O.2 with ⟨_,f⟩ | ⟨o,cap,cur,f,U,u,C,V,L,K⟩
 ·exfalso
  simp at f
  exact F f
 ·have f:g.cur id=_:=f
  simp only[List.length_map] at f C K
  have I:l.length*1<=cur.size:=by rw[L];exact Nat.mul_le_mul_right _ C
  have D:∀j,j<l.length*1->cur[j]? =some ((Q6 l.toArray[j / 1]!)[j % 1]!):=λj t=>by
   rw[<-Xn Q6 1 (by decide) c l j t, <-K,List.getElem?_take,if_pos t,Array.getElem?_toList]
  have P:Holds (Value.int .i64) w o 0 l.toArray:=λj t=>by
   have t:j<l.length:=by simpa using t
   refine ⟨?_,?_⟩
   ·simp only[World.cell?,u,Nat.zero_add]
    have:=D j (by omega)
    rw[Nat.div_one,Nat.mod_one] at this
    exact this
   ·simp[World.frozen?,u]
  have m:Calls Tryz.prog 151 _ _ _:=AnyG.slices_Sort_int Xla o 0 cap l w P (Array.getElem?_eq_some_iff.1 u).1 (by omega)
  rw[N,f]
  refine m.mono ?_
  rintro e w' ⟨rfl,n,os,rfl⟩
  rw[Qva]
  obtain ⟨a,s⟩:∃a,a=(l.mergeSort λx y=>decide (x<=y)).toArray:=⟨_,rfl⟩
  have G:(l.mergeSort λx y=>decide (x<=y))=a.toList:=by rw[s]
  rw[G,show a.toList.toArray=a from Array.toArray_toList]
  have z:a.size=l.length:=by rw[s];simp
  have S:(flatK Q6 1 a).toList=wq Q6 a.toList:=KG Q6 1 (by decide) c a.toList
  have q:(flatK Q6 1 a).size=l.length*1:=by simp[z]
  have d:=yC (w':=grow (putRow _root_.id (Sort.ahead w n) o 0 (flatK Q6 1 a)) os) (v':=g.cur id) (st':=st) (xs':=a.toList.map λx=>(Q6 x).map .v) (cells:=wq Q6 a.toList) M hB k (by simp[c]) (by rw[f];exact XU w o n _ os)
   ⟨by rw[QX Q6 1 c];simp,.inr ⟨o,cap,_,by simp[f,z],U,V2 w o n _ os u,by simp[z];exact C,V,by simp[putCells];rw[L,Nat.mul_one],by
    have:=V3 (flatK Q6 1 a) cur (by rw[q];exact I)
    rw[S,q] at this
    simpa [z] using this⟩⟩ (by rw[Wr];exact ZT _) (.inl ⟨rfl,rfl⟩) (λb R=> .inl R)
  rw[<-qn rfl] at d
  exact ⟨_,_,_,_,rfl,⟨rfl,rfl⟩,zC A rfl,d, #[],rfl,rfl⟩
end Go.Proofs.YtfmldcilgbbimaaGreat.Ax
namespace Go.Proofs.YtfmldcilgbbimaaGreat.Ax
open Go Go.Proofs
set_option maxRecDepth 100000
theorem jTa (l:List Int):((l.map zz).all λr=>r.length==1 && r.all AV.one)=true:=by
 rw[List.all_eq_true];intro r a;obtain ⟨s,_,rfl⟩:=List.mem_map.1 a;rfl
theorem vua {h:List Ob} {d:Nat} {a o:Ob} {l:List Int} {st:Nat} (b:d<h.length):((h++[a,.row 3 1 (l.map zz) st]).set d o)[h.length+1]? =some (.row 3 1 (l.map zz) st):=by
 rw[List.getElem?_set_ne (by omega),zm (k:=1) rfl];rfl
theorem jUa {h:List Ob} {d:Nat} {a o c b:Ob} (e:d<h.length):((h++[a,c]).set d o).set (h.length+1) b=h.set d o++[a,b]:=by
 rw[List.set_append_left _ _ e,List.set_append_right _ _ (by rw[List.length_set];omega),List.length_set,Nat.add_sub_cancel_left];rfl
theorem jVa {h:List Ob} {a:Ob} {l:List Int} {st:Nat}:New h 1 (.tl (h.length+1) st) (l.map zz) [a,.row 3 1 (l.map zz) st]:=OwnS.new (h0:=h) (ty:=3) (.inr ⟨h.length+1,st,by omega,rfl,by rw[zm (k:=1) rfl];rfl⟩) (Nat.le_refl _)
section
variable {h:List Ob} {d:Nat} {s:Setup} {a:SA} {x c:AV} {rows segs bytes:AV} {q:Cm}
def vF (b:Bk) (q:Cm):Bool:=Qz q && !qB b.shut q.week
theorem Vma (g:h[d]? =some (.box 145 (zK s a x c 0 rows segs bytes q))) (b:Bk) (D:SlOf h c 1 (b.shut.map zz)) (A:b.shut.length<1048576) (N:b.shut.Pairwise (· < ·)):
  ACalls Tryz.prog 76 [.ptr d 0] h λr h'=>r= .tup []/\∃L y,h'=h.set d (.box 145 (zK s a x y (if vF b q then 0 else 212) rows segs bytes q))++L/\NoRes L/\
   (vF b q=false->y=c/\L=[])/\(vF b q=true->New h 1 y ((QC q.week b.shut).map zz) L):=by
 have hex:∃r h',(r=AV.tup []/\∃L y,h'=h.set d (.box 145 (zK s a x y (if vF b q then 0 else 212) rows segs bytes q))++L/\NoRes L/\
   (vF b q=false->y=c/\L=[])/\(vF b q=true->New h 1 y ((QC q.week b.shut).map zz) L))/\ResK h h':=by
  cases O:vF b q
  ·exact ⟨_,_,⟨rfl,[],c,rfl,qh,λ_=>⟨rfl,rfl⟩,λq=>by cases q⟩,by rw[List.append_nil];exact zC g rfl⟩
  ·exact ⟨_,_,⟨rfl,[],.sl 1 _,rfl,qh,λq=>(by cases q),λ_ _ _=>⟨rfl,λ_=>rfl⟩⟩,by rw[List.append_nil];exact zC g rfl⟩
 refine zf Tryz.f76 [] 39 rfl rfl rfl rfl rfl rfl (by decide) (hex) λB=>?_
 simp only[go_sem,g]
 refine zc (Qfa g) ?_
 rintro _ P ⟨rfl,G⟩
 rw[G]
 cases E:Qz q
 ·have n:vF b q=false:=by unfold vF;rw[E];rfl
  simp only[go_sem]
  refine zc (Qy g false 212) ?_
  rintro _ F ⟨rfl,rfl⟩
  rw[show qH 0 false 212=212 from rfl]
  simp only[go_sem]
  exact ⟨_,rfl,.inl ⟨rfl,[],c,by rw[n,List.append_nil];rfl,qh,λ_=>⟨rfl,rfl⟩,λq=>by rw[n] at q;cases q⟩⟩
 ·simp only[go_sem,g]
  refine zc (K7 g b.shut D A q.week) ?_
  rintro _ F ⟨rfl,H⟩
  rw[H,show b.shut.any (q.week== ·)=qB b.shut q.week from rfl]
  have k:vF b q= !qB b.shut q.week:=by unfold vF;rw[E];rfl
  simp only[go_sem]
  refine zc (Qy g (!qB b.shut q.week) 212) ?_
  rintro _ R ⟨rfl,rfl⟩
  rw[k]
  cases C:qB b.shut q.week
  ·rw[show qH 0 (!false) 212=0 from rfl,zT g]
   simp only[go_sem]
   refine zn rfl [.res] 1 [(0,0,[]),(1,0,[]),(2,0,[]),(3,0,[]),(4,0,[]),(7,0,[]),(8,0,[]),(9,0,[]),(10,0,[]),(5,0,[]),(11,0,[]),(6,0,[11]),(12,0,[]),(13,0,[]),(14,0,[]),(15,0,[]),(16,0,[]),(17,0,[])] rfl (by decide) (by decide) ?_
   have f:∀M,(h++M)[d]? =some (.box 145 (zK s a x c 0 rows segs bytes q)):=λM=>zb g
   have i:=(List.getElem?_eq_some_iff.1 g).1
   have m:q.week∉b.shut:=λK=>by rw[yY.2 K] at C;cases C
   have e:=kAa m N
   simp only[go_sem,f]
   refine zc (X9 _ c (b.shut.map zz) (D.app _) (by rw[List.length_map];omega) (jTa _)) ?_
   rintro _ Q (⟨p,z,rfl⟩ | ⟨z,rfl⟩)
   ·have J:b.shut=[]:=by simpa using p
    rw[z]
    rw[J] at e⊢
    have j:∀M o,((h++M).set d o)[d]? =some o:=λM o=>zh (f M)
    simp only[go_sem,f,j]
    refine zc (Qwa _ (h.length+1) 0 [q.week] (vua (l:=[q.week]) i) (by simp) (by simp)) ?_
    rintro _ I ⟨rfl,w⟩
    rw[w,jUa i,show ([q.week].mergeSort λx y=>decide (x<=y))=QC q.week [] from e]
    simp only[go_sem]
    exact ⟨_,rfl,.inl ⟨rfl,_,.tl (h.length+1) 0,rfl,zg rfl (zi rfl),λq=>(by cases q),λ_=>jVa⟩⟩
   ·rw[z]
    have t:((b.shut.map zz).length+1)*9<=140737488355328:=by rw[List.length_map];omega
    have u:b.shut.map zz++[[AV.v (Value.int IntKind.i64 q.week)]]=(b.shut++[q.week]).map zz:=by rw[List.map_append];rfl
    have j:∀M o,((h++M).set d o)[d]? =some o:=λM o=>zh (f M)
    simp only[go_sem,f,t,u,j]
    refine zc (Qwa _ (h.length+1) 2 (b.shut++[q.week]) (vua (l:=b.shut++[q.week]) i) (by simp;omega) (by simp)) ?_
    rintro _ I ⟨rfl,w⟩
    rw[w,jUa i,e]
    simp only[go_sem]
    exact ⟨_,rfl,.inl ⟨rfl,_,.tl (h.length+1) 2,rfl,zg rfl (zi rfl),λq=>(by cases q),λ_=>jVa⟩⟩
  ·rw[show qH 0 (!true) 212=212 from rfl]
   simp only[go_sem]
   exact ⟨_,rfl,.inl ⟨rfl,[],c,by rw[List.append_nil],qh,λ_=>⟨rfl,rfl⟩,λq=>by cases q⟩⟩
end
set_option maxRecDepth 100000
theorem w4a {h h':List Ob} {id st e:Nat} {y:AV} {xs:List (List AV)} (b:y= .tl id st∨∃n,y= .vw (.tl id st) 1 0 n) (a:h[id]? =h'[id]?) (k:SlOf h y e xs):SlOf h' y e xs:=by
 obtain ⟨k1,k2⟩:=k
 rcases b with rfl | ⟨n,rfl⟩
 ·refine ⟨?_,λq=>?_⟩
  ·rw[zX] at k1 ⊢;rw[<-a];exact k1
  ·have:=k2 q
   rw[qE] at this ⊢;rw[<-a];exact this
 ·refine ⟨?_,λq=>?_⟩
  ·rw[xy,zX,qE] at k1 ⊢;rw[<-a];exact k1
  ·have:=k2 q
   rw[Ze,qE] at this ⊢;rw[<-a];exact this
theorem jWa {h:List Ob} {b a:Ob} {y:AV} {st:Nat} {xs:List (List AV)} (c:y= .tl (h.length+1) st∨∃n,y= .vw (.tl (h.length+1) st) 1 0 n) (k:SlOf ((h++[b])++[a]) y 1 xs):New h 1 y xs [b,a]:=λd e=>by
 refine w4a c ?_ k
 rw[List.append_assoc,show [b]++[a]=[b,a] from rfl,zm (k:=1) rfl, <-e,zm (k:=1) rfl]
section
variable {h:List Ob} {d:Nat} {s:Setup} {a:SA} {x c:AV} {rows segs bytes:AV} {q:Cm}
theorem Vna (z:h[d]? =some (.box 145 (zK s a x c 0 rows segs bytes q))) (b:Bk) (C:SlOf h c 1 (b.shut.map zz)) (v:b.shut.length<1048576):
  ACalls Tryz.prog 77 [.ptr d 0] h λr h'=>r= .tup []/\∃L y,h'=h.set d (.box 145 (zK s a x y (if qB b.shut q.week then 0 else 212) rows segs bytes q))++L/\NoRes L/\
   (qB b.shut q.week=false->y=c)/\(qB b.shut q.week=true->New h 1 y ((b.shut.filter λw=> !(w==q.week)).map zz) L):=by
 have hex:∃r h',(r=AV.tup []/\∃L y,h'=h.set d (.box 145 (zK s a x y (if qB b.shut q.week then 0 else 212) rows segs bytes q))++L/\NoRes L/\
   (qB b.shut q.week=false->y=c)/\(qB b.shut q.week=true->New h 1 y ((b.shut.filter λw=> !(w==q.week)).map zz) L))/\ResK h h':=by
  cases N:qB b.shut q.week
  ·exact ⟨_,_,⟨rfl,[],c,rfl,qh,λ_=>rfl,λq=>by cases q⟩,by rw[List.append_nil];exact zC z rfl⟩
  ·exact ⟨_,_,⟨rfl,[],.sl 1 _,rfl,qh,λq=>(by cases q),λ_ _ _=>⟨rfl,λ_=>rfl⟩⟩,by rw[List.append_nil];exact zC z rfl⟩
 have m:=(List.getElem?_eq_some_iff.1 z).1
 have p:∀M,(h++M)[d]? =some (.box 145 (zK s a x c 0 rows segs bytes q)):=λM=>zb z
 refine zf Tryz.f77 [] 23 rfl rfl rfl rfl rfl rfl (by decide) (hex) λB=>?_
 simp only[go_sem,p]
 obtain ⟨H,i⟩:∃H,H=h++[Ob.box 142 [.ptr d 0]]:=⟨_,rfl⟩
 have t:H.length=h.length+1:=by rw[i];simp
 have j:H[d]? =some (.box 145 (zK s a x c 0 rows segs bytes q)):=by rw[i];exact p _
 have l:H[h.length]? =some (.box 142 [.ptr d 0]):=by rw[i,zo rfl];rfl
 rw[<-i]
 have g:∀M,(H++M)[h.length]? =some (.box 142 [.ptr d 0]):=λM=>zb l
 have f:∀M,(H++M)[d]? =some (.box 145 (zK s a x c 0 rows segs bytes q)):=λM=>zb j
 refine zn rfl [] 0 [(0,0,[]),(1,0,[]),(2,0,[]),(3,0,[]),(4,0,[]),(5,0,[]),(6,0,[]),(7,0,[0]),(8,0,[])] rfl (by decide) (by decide) ?_
 simp only[go_sem,j,l,g,f]
 refine zc (K7 j b.shut (by rw[i];exact C.app _) v q.week) ?_
 rintro _ P ⟨rfl,F⟩
 rw[F,show b.shut.any (q.week== ·)=qB b.shut q.week from rfl]
 simp only[go_sem,l]
 refine zc (Qy j (qB b.shut q.week) 212) ?_
 rintro _ R ⟨rfl,rfl⟩
 cases A:qB b.shut q.week
 ·rw[show qH 0 false 212=212 from rfl]
  simp only[go_sem]
  refine ⟨_,rfl,.inl ⟨rfl,[.box 142 [.ptr d 0]],c,?_,zi rfl,λ_=>rfl,λq=>by cases q⟩⟩
  rw[i,List.set_append_left _ _ m]
 ·rw[show qH 0 true 212=0 from rfl,zT j]
  simp only[go_sem]
  refine zn rfl [] 0 [(7,0,[]),(0,0,[]),(1,0,[]),(2,0,[]),(3,0,[]),(4,0,[]),(5,0,[]),(6,0,[0]),(8,0,[0]),(9,0,[]),(10,0,[]),(11,0,[]),(12,0,[])] rfl (by decide) (by decide) ?_
  simp only[go_sem,j,l,g,f]
  refine zc (X9 _ c (b.shut.map zz) (by rw[i];exact C.app _) (by rw[List.length_map];omega) (jTa _)) ?_
  rintro _ Q (⟨u,D,rfl⟩ | ⟨D,rfl⟩)
  ·exfalso
   have J:b.shut=[]:=by simpa using u
   rw[J] at A
   cases A
  ·rw[D]
   simp only[go_sem,f,g]
   refine zc (Xka _ H.length 1 b.shut 153 [.ptr h.length 0] (λn=>n==q.week) (by rw[zo rfl];rfl) v (λe O o L=>K7a (by rw[List.set_append_right _ _ (Nat.le_refl _),List.append_assoc];exact f _) h.length (by rw[List.set_append_right _ _ (Nat.le_refl _),List.append_assoc];exact g _) e)) ?_
   rintro r G ⟨l2,I,K,k⟩
   have E:G=H++[zZa l2 1]:=by rw[I,List.set_append_right _ _ (Nat.le_refl _),Nat.sub_self];rfl
   rw[E] at k⊢
   rcases K with rfl | ⟨n,rfl⟩
   ·simp only[go_sem,f,g]
    refine ⟨_,rfl,.inl ⟨rfl,[.box 142 [.ptr d 0],zZa l2 1],(.tl H.length 1),?_,zg rfl (zi rfl),λq=>q.elim,λ_=>jWa (st:=1) (.inl (by rw[t])) (by rw[i] at k;rw[i];exact k)⟩⟩
    rw[i,List.append_assoc,List.set_append_left _ _ m];rfl
   ·simp only[go_sem,f,g]
    refine ⟨_,rfl,.inl ⟨rfl,[.box 142 [.ptr d 0],zZa l2 1],(.vw (.tl H.length 1) 1 0 n),?_,zg rfl (zi rfl),λq=>q.elim,λ_=>jWa (st:=1) (.inr ⟨n,by rw[t]⟩) (by rw[i] at k;rw[i];exact k)⟩⟩
    rw[i,List.append_assoc,List.set_append_left _ _ m];rfl
end
end Go.Proofs.YtfmldcilgbbimaaGreat.Ax
namespace Go.Proofs.YtfmldcilgbbimaaGreat.Ax
open Go Go.Proofs Go.RowKit
set_option maxRecDepth 100000
abbrev nl:AV:= .v (.slice none 0 0)
abbrev BX (b:Bk):AV:= .sl 11 (b.evs.map evC)
abbrev BC (b:Bk):AV:= .sl 1 (b.shut.map zz)
def SlN (y:AV) (e:Nat) (rows:List (List AV)):Prop:=y= .sl e rows∨(y=nl/\rows=[])
theorem Xma {n:Nat} {s:Setup} {a:SA} {x c rows segs bytes:AV} {err:Int} {q:Cm}:zG n (zK s a x c err rows segs bytes q)=(a.w.lt n && (a.e.lt n && (a.c.lt n && (a.g.lt n && (a.r.lt n && (a.t.lt n && (x.lt n && (c.lt n && (rows.lt n && (segs.lt n && (bytes.lt n && true))))))))))):=rfl
structure AL (n:Nat) (a:SA):Prop where
 w:a.w.lt n=true
 e:a.e.lt n=true
 c:a.c.lt n=true
 g:a.g.lt n=true
 r:a.r.lt n=true
 t:a.t.lt n=true
theorem yu {n:Nat} {s:Setup} {a:SA} {x c rows segs bytes:AV} {err:Int} {q:Cm}:zG n (zK s a x c err rows segs bytes q)=true↔AL n a/\x.lt n=true/\c.lt n=true/\rows.lt n=true/\segs.lt n=true/\bytes.lt n=true:=by
 rw[Xma]
 simp only[Bool.and_eq_true,and_true]
 exact ⟨λ⟨e,b,i,d,g,f,h⟩=>⟨⟨e,b,i,d,g,f⟩,h⟩,λ⟨⟨e,b,i,d,g,f⟩,h⟩=>⟨e,b,i,d,g,f,h⟩⟩
theorem XYa {n:Nat} (b:Bk):(BX b).lt n=true:=vz b.evs
theorem QF {n:Nat} {cs a b:List AV} {z:AV} (e:cs=a++z::b) (h:zG n cs=true):zG n a=true/\zG n b=true:=by
 rw[e,JM,Bool.and_eq_true,zG,Bool.and_eq_true] at h
 exact ⟨h.1,h.2.2⟩
section
variable {h:List Ob} {d:Nat} {s:Setup} {a:SA} {q:Cm} {b:Bk}
def Ya (f:FuncId) (h:List Ob) (d:Nat) (s:Setup) (a:SA) (b:Bk) (q:Cm):Prop:=
 ACalls Tryz.prog f [.ptr d 0] h λr h'=>r= .tup []/\∃(c g e:AV) (i:Cm),h'=h.set d (.box 145 (zK s a (BX (doP s b q).1) (BC (doP s b q).1) (doP s b q).2.err c g e i))/\
  SlN c 27 ((doP s b q).2.rows.map xN)/\SlN g 5 ((doP s b q).2.segs.map jo)/\SlN e 1 ((doP s b q).2.bytes.map je)
theorem z0a (f:Fx):Qra s b f (BX b)=BX (Kf s b f).1:=by
 unfold Qra Kf
 split<;>rfl
theorem Qxa (f:Fx):BC (Kf s b f).1=BC b:=by
 unfold Kf
 split<;>rfl
theorem Y6a (e:h[d]? =some (.box 145 (zK s a (BX b) (BC b) 0 nl nl nl q))) (k:SIn h s a) (i:BkI s b) (f:b.shut.length<=53) (j:q.kind=2):Ya 73 h d s a b q:=by
 have g:doP s b q=Kf s b q.fx:=by unfold doP;rw[if_neg (by omega),if_pos j]
 have:=i.few
 have c0:=wl e (λn c=>by
  rw[yu] at c⊢
  rw[z0a]
  exact ⟨c.1,XYa _,c.2.2⟩) (W3a e k b ⟨rfl,λ_=>rfl⟩ (by omega) ⟨rfl,λ_=>rfl⟩ (by omega) rfl)
 refine c0.mono ?_
 rintro r h' ⟨rfl,rfl⟩
 rw[g,z0a, <-Qxa (s:=s) (b:=b) q.fx]
 exact ⟨rfl,nl,nl,nl,q,rfl,.inr ⟨rfl,rfl⟩,.inr ⟨rfl,rfl⟩,.inr ⟨rfl,rfl⟩⟩
theorem Xna (e:h[d]? =some (.box 145 (zK s a (BX b) (BC b) 0 nl nl nl q))) (k:SIn h s a) (i:BkI s b) (f:b.shut.length<=53) (j:q.kind=1):Ya 72 h d s a b q:=by
 have g:doP s b q=Kf s b ⟨1,q.fx.ev⟩:=by unfold doP;rw[if_pos j]
 have:=i.few
 have c0:=wl e (λn c=>by
  rw[yu] at c⊢
  rw[z0a]
  exact ⟨c.1,XYa _,c.2.2⟩) (Xja e k b ⟨rfl,λ_=>rfl⟩ (by omega) ⟨rfl,λ_=>rfl⟩ (by omega) rfl)
 refine c0.mono ?_
 rintro r h' ⟨rfl,rfl⟩
 rw[g,z0a, <-Qxa (s:=s) (b:=b) ⟨1,q.fx.ev⟩]
 exact ⟨rfl,nl,nl,nl,Xia q,rfl,.inr ⟨rfl,rfl⟩,.inr ⟨rfl,rfl⟩,.inr ⟨rfl,rfl⟩⟩
theorem W5a (e:h[d]? =some (.box 145 (zK s a (BX b) (BC b) 0 nl nl nl q))) (k:SIn h s a) (f:SFit s) (i:BkI s b) (g:q.kind=4):Ya 75 h d s a b q:=by
 have c:doP s b q=(b,if jD s q then ⟨0,[],(zM s b.evs q.worker).1,[]⟩ else ja 80):=by unfold doP;rw[if_neg (by omega),if_neg (by omega),if_neg (by omega),if_pos g]
 have:=i.few
 refine (WRa e k f b.evs ⟨rfl,λ_=>rfl⟩ (by omega)).mono ?_
 rintro r h' ⟨rfl,rfl⟩
 rw[c]
 cases j:jD s q
 ·exact ⟨rfl,nl,nl,nl,q,rfl,.inr ⟨rfl,rfl⟩,.inr ⟨rfl,rfl⟩,.inr ⟨rfl,rfl⟩⟩
 ·exact ⟨rfl,nl,_,nl,q,rfl,.inr ⟨rfl,rfl⟩,.inl rfl,.inr ⟨rfl,rfl⟩⟩
theorem Y7a (e:h[d]? =some (.box 145 (zK s a (BX b) (BC b) 0 nl nl nl q))) (k:SIn h s a) (f:SFit s) (i:BkI s b) (o:q.kind=3):Ya 74 h d s a b q:=by
 have c:doP s b q=(b,if ZQ s 0 q==0 then ⟨0,[zW s b.evs q.worker q.week],[],[]⟩ else ja (ZQ s 0 q)):=by unfold doP;rw[if_neg (by omega),if_neg (by omega),if_pos o]
 have:=i.few
 have c0:=WSa e k f b.evs ⟨rfl,λ_=>rfl⟩ (by omega)
 obtain ⟨E,l⟩:∃E,E=ZQ s 0 q:=⟨_,rfl⟩
 rw[<-l] at c0 c
 by_cases h0:E=0
 ·subst h0
  have m:ACalls Tryz.prog 74 [.ptr d 0] h λr h'=>r= .tup []/\∃L y,h'=h.set d (.box 145 ((zK s a (BX b) (BC b) 0 nl nl nl q).take 26++y::(zK s a (BX b) (BC b) 0 nl nl nl q).drop 27))++L/\NoRes L/\New h 27 y [xN (zW s b.evs q.worker q.week)] L:=c0.mono λr h' q=>by
   obtain ⟨rfl,p,L,rfl,g,⟨q,_⟩ | ⟨_,rfl,rfl⟩⟩:=q
   ·exact absurd rfl q
   ·exact ⟨rfl,_,_,rfl,g,OwnS.new (h0:=h) (ty:=45) (.inr ⟨h.length,0,Nat.le_refl _,rfl,by rw[zo rfl];rfl⟩) (Nat.le_refl _)⟩
  refine (xY (by decide) e (λn j=>QF (z:=nl) rfl j) (λn=>?_) m).mono ?_
  ·exact Xv [zW s b.evs q.worker q.week]
  ·rintro r h' ⟨rfl,rfl⟩
   rw[c]
   exact ⟨rfl,_,nl,nl,q,rfl,.inl rfl,.inr ⟨rfl,rfl⟩,.inr ⟨rfl,rfl⟩⟩
 ·refine c0.mono ?_
  rintro r h' ⟨rfl,p,L,rfl,g,⟨_,rfl,rfl⟩ | ⟨q,_⟩⟩
  ·rw[c,if_neg (by simpa using h0),List.append_nil]
   exact ⟨rfl,nl,nl,nl,q,rfl,.inr ⟨rfl,rfl⟩,.inr ⟨rfl,rfl⟩,.inr ⟨rfl,rfl⟩⟩
  ·exact absurd q h0
theorem W6a (f:h[d]? =some (.box 145 (zK s a (BX b) (BC b) 0 nl nl nl q))) (i:BkI s b) (m:b.shut.length<=53) (p:q.kind=5):Ya 76 h d s a b q:=by
 have e:doP s b q=(if vF b q then (⟨b.evs,QC q.week b.shut⟩,ja 0) else (b,ja 212)):=by unfold doP;rw[if_neg (by omega),if_neg (by omega),if_neg (by omega),if_neg (by omega),if_pos p];rfl
 have c0:=Vma f b ⟨rfl,λ_=>rfl⟩ (by omega) i.rise
 cases c:vF b q
 ·rw[c] at c0 e
  refine c0.mono ?_
  rintro r h' ⟨rfl,L,y,rfl,g,j,_⟩
  obtain ⟨rfl,rfl⟩:=j rfl
  rw[e,List.append_nil]
  exact ⟨rfl,nl,nl,nl,q,rfl,.inr ⟨rfl,rfl⟩,.inr ⟨rfl,rfl⟩,.inr ⟨rfl,rfl⟩⟩
 ·rw[c] at c0 e
  have o:ACalls Tryz.prog 76 [.ptr d 0] h λr h'=>r= .tup []/\∃L y,h'=h.set d (.box 145 ((zK s a (BX b) (BC b) 0 nl nl nl q).take 24++y::(zK s a (BX b) (BC b) 0 nl nl nl q).drop 25))++L/\NoRes L/\New h 1 y ((QC q.week b.shut).map zz) L:=c0.mono λr h' q=>by
   obtain ⟨rfl,L,y,rfl,g,_,k⟩:=q
   exact ⟨rfl,L,y,rfl,g,k rfl⟩
  refine (xY (by decide) f (λn l=>QF (z:=BC b) rfl l) (λn=>wg _) o).mono ?_
  rintro r h' ⟨rfl,rfl⟩
  rw[e]
  exact ⟨rfl,nl,nl,nl,q,rfl,.inr ⟨rfl,rfl⟩,.inr ⟨rfl,rfl⟩,.inr ⟨rfl,rfl⟩⟩
theorem W7a (g:h[d]? =some (.box 145 (zK s a (BX b) (BC b) 0 nl nl nl q))) (m:b.shut.length<=53) (o:q.kind=6):Ya 77 h d s a b q:=by
 have f:doP s b q=(if qB b.shut q.week then (⟨b.evs,b.shut.filter λw=> !(w==q.week)⟩,ja 0) else (b,ja 212)):=by unfold doP;rw[if_neg (by omega),if_neg (by omega),if_neg (by omega),if_neg (by omega),if_neg (by omega),if_pos o]
 have c0:=Vna g b ⟨rfl,λ_=>rfl⟩ (by omega)
 cases c:qB b.shut q.week
 ·rw[c] at c0 f
  have j:=wl g (cs:=zK s a (BX b) (BC b) 212 nl nl nl q) (λn e=>by rw[yu] at e ⊢;exact e) (c0.mono λr h' q=>by
   obtain ⟨rfl,L,y,rfl,i,k,_⟩:=q
   have:=k rfl
   subst this
   exact ⟨rfl,L,rfl,i⟩)
  refine j.mono ?_
  rintro r h' ⟨rfl,rfl⟩
  rw[f]
  exact ⟨rfl,nl,nl,nl,q,rfl,.inr ⟨rfl,rfl⟩,.inr ⟨rfl,rfl⟩,.inr ⟨rfl,rfl⟩⟩
 ·rw[c] at c0 f
  have j:ACalls Tryz.prog 77 [.ptr d 0] h λr h'=>r= .tup []/\∃L y,h'=h.set d (.box 145 ((zK s a (BX b) (BC b) 0 nl nl nl q).take 24++y::(zK s a (BX b) (BC b) 0 nl nl nl q).drop 25))++L/\NoRes L/\New h 1 y ((b.shut.filter λw=> !(w==q.week)).map zz) L:=c0.mono λr h' q=>by
   obtain ⟨rfl,L,y,rfl,i,_,l⟩:=q
   exact ⟨rfl,L,y,rfl,i,l rfl⟩
  refine (xY (by decide) g (λn e=>QF (z:=BC b) rfl e) (λn=>wg _) j).mono ?_
  rintro r h' ⟨rfl,rfl⟩
  rw[f]
  exact ⟨rfl,nl,nl,nl,q,rfl,.inr ⟨rfl,rfl⟩,.inr ⟨rfl,rfl⟩,.inr ⟨rfl,rfl⟩⟩
theorem Xoa (l:h[d]? =some (.box 145 (zK s a (BX b) (BC b) 0 nl nl nl q))) (k:SIn h s a) (f:SFit s) (i:BkI s b) (t:b.shut.length<=53) (m:s.rates.length<4096) (u:q.kind=7):Ya 78 h d s a b q:=by
 have g:doP s b q=(b,if qB b.shut q.week then ⟨0,ju s b q.week,[],(kw (ju s b q.week)).1⟩ else ja 212):=by unfold doP;rw[if_neg (by omega),if_neg (by omega),if_neg (by omega),if_neg (by omega),if_neg (by omega),if_neg (by omega),if_pos u]
 have:=i.few
 have c0:=Qua l k f b ⟨rfl,λ_=>rfl⟩ (by omega) ⟨rfl,λ_=>rfl⟩ (by omega) m
 cases e:qB b.shut q.week
 ·rw[e] at c0 g
  have p:ACalls Tryz.prog 78 [.ptr d 0] h λr h'=>r= .tup []/\∃L y,h'=h.set d (.box 145 ((zK s a (BX b) (BC b) 212 nl nl nl q).take 26++y::(zK s a (BX b) (BC b) 212 nl nl nl q).drop 27))++L/\NoRes L/\New h 27 y [] L:=c0.mono λr h' q=>by
   obtain ⟨rfl,L,y,rfl,o,c⟩:=q
   exact ⟨rfl,L,y,rfl,o,c⟩
  refine (xY (by decide) l (λn c=>QF (z:=nl) (cs:=zK s a (BX b) (BC b) 212 nl nl nl q) rfl c) (λn=>rfl) p).mono ?_
  rintro r h' ⟨rfl,rfl⟩
  rw[g]
  exact ⟨rfl,_,nl,nl,q,rfl,.inl rfl,.inr ⟨rfl,rfl⟩,.inr ⟨rfl,rfl⟩⟩
 ·rw[e] at c0 g
  obtain ⟨z,j⟩:∃z,z=AV.sl 1 ((kw (ju s b q.week)).1.map je):=⟨_,rfl⟩
  have p:ACalls Tryz.prog 78 [.ptr d 0] h λr h'=>r= .tup []/\∃L y,h'=h.set d (.box 145 ((zK s a (BX b) (BC b) 0 nl nl z q).take 26++y::(zK s a (BX b) (BC b) 0 nl nl z q).drop 27))++L/\NoRes L/\New h 27 y ((ju s b q.week).map xN) L:=c0.mono λr h' q=>by
   obtain ⟨rfl,L,y,rfl,o,c⟩:=q
   exact ⟨rfl,L,y,by rw[j];rfl,o,c⟩
  refine (xY (by decide) l (λn c=>QF (z:=nl) (cs:=zK s a (BX b) (BC b) 0 nl nl z q) rfl (by
   rw[yu] at c⊢
   exact ⟨c.1,c.2.1,c.2.2.1,c.2.2.2.1,c.2.2.2.2.1,by rw[j];exact QZ _⟩)) (λn=>Xv _) p).mono ?_
  rintro r h' ⟨rfl,rfl⟩
  rw[g]
  exact ⟨rfl,_,nl,z,q,rfl,.inl rfl,.inr ⟨rfl,rfl⟩,.inl j⟩
theorem W8a (c:h[d]? =some (.box 145 (zK s a (BX b) (BC b) 0 nl nl nl q))) (f:q.kind=8):Ya 79 h d s a b q:=by
 have e:doP s b q=(b,ja 0):=by unfold doP;rw[if_neg (by omega),if_neg (by omega),if_neg (by omega),if_neg (by omega),if_neg (by omega),if_neg (by omega),if_neg (by omega),if_pos f]
 unfold Ya
 rw[e]
 refine zf Tryz.f79 [] 2 rfl rfl rfl rfl rfl rfl (by decide) (⟨_,_,⟨rfl,nl,nl,nl,q,rfl,.inr ⟨rfl,rfl⟩,.inr ⟨rfl,rfl⟩,.inr ⟨rfl,rfl⟩⟩,zC c rfl⟩) λB=>?_
 simp only[go_sem]
 exact ⟨_,rfl,.inl ⟨rfl,nl,nl,nl,q,(zT c).symm,.inr ⟨rfl,rfl⟩,.inr ⟨rfl,rfl⟩,.inr ⟨rfl,rfl⟩⟩⟩
end
set_option maxRecDepth 100000
abbrev Km (q:Cm):List AV:=[i64 q.kind,i64 q.fx.op,i64 q.fx.ev.id,i64 q.fx.ev.worker,i64 q.fx.ev.at_,i64 q.fx.ev.kind,i64 q.fx.ev.from_,i64 q.fx.ev.to_,i64 q.fx.ev.element,i64 q.fx.ev.units,i64 q.fx.ev.class_,i64 q.fx.ev.gear,i64 q.fx.ev.code,i64 q.worker,i64 q.week,i64 q.last]
abbrev BV (s:Setup) (b:Bk):AV:= .ag (xX s (frA s) (BX b) (BC b))
abbrev jE (w:An):List AV:=[i64 w.err,.sl 27 (w.rows.map xN),.sl 5 (w.segs.map jo),.sl 1 (w.bytes.map je)]
theorem jXa {s:Setup} {b:Bk} (i:BkI s b):b.shut.length<=53:=by
 have d:b.shut.Nodup:=i.rise.imp λ{a b} h q=>by omega
 have:=Xu (b:=QA 0 52) d λw c=>by rw[JI];exact i.rng w c
 have e:(QA 0 52).length=53:=by rw[QA,List.length_map,List.length_range];rfl
 omega
theorem w5a {P:Program} {x:AV} {n:FuncId} {ar:List AV} {h:List Ob} {k:AV->List Ob->Prop} (e:x= .fn (.func n) [] []) (g: @Yj P n ar h ⟨k⟩): @Vu P x ar h ⟨k⟩:=by
 subst e
 rw[qra,List.nil_append,List.append_nil]
 exact g
theorem Y8a (h:List Ob) (s:Setup) (f:SFit s) (b:Bk) (i:BkI s b) (q:Cm) (C:s.rates.length<4096):
  ACalls Tryz.prog 29 [BV s b,.ag (Km q)] h λr h'=>(∃m l j:AV,r= .tup [BV s (doP s b q).1,.ag [i64 (doP s b q).2.err,m,l,j]]/\SlN m 27 ((doP s b q).2.rows.map xN)/\SlN l 5 ((doP s b q).2.segs.map jo)/\SlN j 1 ((doP s b q).2.bytes.map je))/\h'=h:=by
 have hex:∃r h',((∃m l j:AV,r=AV.tup [BV s (doP s b q).1,.ag [i64 (doP s b q).2.err,m,l,j]]/\SlN m 27 ((doP s b q).2.rows.map xN)/\SlN l 5 ((doP s b q).2.segs.map jo)/\SlN j 1 ((doP s b q).2.bytes.map je))/\h'=h)/\ResK h h':=⟨_,_,⟨⟨_,_,_,rfl,.inl rfl,.inl rfl,.inl rfl⟩,rfl⟩,.refl⟩
 have y:=(vE (h:=h) s).ones
 refine zf Tryz.f29 [.cell 4 64,.cell 5 69] 38 rfl rfl rfl rfl rfl rfl (by decide) (hex) λB=>?_
 simp only[go_sem,y]
 refine ways (λe=>?_) (λe=>?_)
 ·have a:q.kind≠1/\q.kind≠2/\q.kind≠3/\q.kind≠4/\q.kind≠5/\q.kind≠6/\q.kind≠7/\q.kind≠8:=by
   simp only[Bool.not_eq_true',Bool.or_eq_false_iff,beq_eq_false_iff_ne] at e
   omega
  have J:doP s b q=(b,ja 240):=by unfold doP;rw[if_neg (by omega),if_neg (by omega),if_neg (by omega),if_neg (by omega),if_neg (by omega),if_neg (by omega),if_neg (by omega),if_neg (by omega)]
  rw[J]
  simp only[go_sem,y]
  refine ⟨.tup [BV s b,.ag [i64 240,nl,nl,nl]],by simp only[go_sem],.inr ⟨h,_,rfl,rfl,?_,.refl,⟨nl,nl,nl,rfl,.inr ⟨rfl,rfl⟩,.inr ⟨rfl,rfl⟩,.inr ⟨rfl,rfl⟩⟩,rfl⟩⟩
  simp only[frA,AV.lt,zG,JD,JE,Zz,wg,vz,Bool.and_self]
 ·have a:q.kind=1∨q.kind=2∨q.kind=3∨q.kind=4∨q.kind=5∨q.kind=6∨q.kind=7∨q.kind=8:=by
   simp only[Bool.not_eq_false',Bool.or_eq_true,beq_iff_eq] at e
   omega
  have c:=jXa i
  have o:∃n,(if 1=q.kind then AV.fn (.func 72) [] [] else if 2=q.kind then AV.fn (.func 73) [] [] else if 3=q.kind then AV.fn (.func 74) [] [] else if 4=q.kind then AV.fn (.func 75) [] [] else if 5=q.kind then AV.fn (.func 76) [] [] else if 6=q.kind then AV.fn (.func 77) [] [] else if 7=q.kind then AV.fn (.func 78) [] [] else if 8=q.kind then AV.fn (.func 79) [] [] else AV.v Value.nilFunc)=AV.fn (.func n) [] []/\∀(H:List Ob) (d:Nat),H[d]? =some (.box 145 (zK s (frA s) (BX b) (BC b) 0 nl nl nl q))->Ya n H d s (frA s) b q:=by
   rcases a with a | a | a | a | a | a | a | a
   ·exact ⟨_,by rw[a];rfl,λH d g=>Xna g (vE s) i c a⟩
   ·exact ⟨_,by rw[a];rfl,λH d g=>Y6a g (vE s) i c a⟩
   ·exact ⟨_,by rw[a];rfl,λH d g=>Y7a g (vE s) f i a⟩
   ·exact ⟨_,by rw[a];rfl,λH d g=>W5a g (vE s) f i a⟩
   ·exact ⟨_,by rw[a];rfl,λH d g=>W6a g i c a⟩
   ·exact ⟨_,by rw[a];rfl,λH d g=>W7a g c a⟩
   ·exact ⟨_,by rw[a];rfl,λH d g=>Xoa g (vE s) f i c C a⟩
   ·exact ⟨_,by rw[a];rfl,λH d g=>W8a g a⟩
  obtain ⟨n,F,told⟩:=o
  simp only[go_sem]
  refine w5a F ?_
  refine zc (told _ _ (by rw[zm (k:=5) rfl];rfl)) ?_
  rintro _ N ⟨rfl,m,l,j,M,I,x,z,A⟩
  rw[I]
  have p:AV.one m=true:=by rcases x with rfl | ⟨rfl,_⟩<;>rfl
  have u:AV.one l=true:=by rcases z with rfl | ⟨rfl,_⟩<;>rfl
  have t:AV.one j=true:=by rcases A with rfl | ⟨rfl,_⟩<;>rfl
  obtain ⟨D,E⟩:∃D,D=(doP s b q).1:=⟨_,rfl⟩
  obtain ⟨w,K⟩:∃w,w=(doP s b q).2:=⟨_,rfl⟩
  rw[<-K] at x z A⊢
  rw[<-E]
  clear e F told
  have G:m.lt h.length=true:=by
   rcases x with rfl | ⟨rfl,_⟩
   ·exact Xv _
   ·rfl
  have l2:l.lt h.length=true:=by
   rcases z with rfl | ⟨rfl,_⟩
   ·exact zNa _
   ·rfl
  have L:j.lt h.length=true:=by
   rcases A with rfl | ⟨rfl,_⟩
   ·exact QZ _
   ·rfl
  refine zn rfl [] 0 [(0,0,[]),(1,0,[]),(2,0,[]),(4,0,[]),(5,0,[]),(6,0,[]),(3,0,[]),(7,0,[]),(8,0,[7]),(9,0,[])] rfl (by decide) (by decide) ?_
  simp only[go_sem,y,p,u,t]
  refine ⟨.tup [BV s D,.ag [i64 w.err,m,l,j]],by simp only[go_sem,y,p,u,t],.inr ⟨h,_,rfl,rfl,?_,.refl,⟨m,l,j,rfl,x,z,A⟩,rfl⟩⟩
  simp only[frA,AV.lt,zG,JD,JE,Zz,wg,vz,G,l2,L,Bool.and_self]
theorem SlN.weak {y:AV} {e:Nat} {rows:List (List AV)} (k:SlN y e rows):WeakV y (.sl e rows):=by
 rcases k with rfl | ⟨rfl,rfl⟩
 ·exact .refl _
 ·exact .nil e
theorem WeakV.ag4 {z a g b h d f:AV} (l:WeakV a g) (j:WeakV b h) (t:WeakV d f):WeakV (.ag [z,a,b,d]) (.ag [z,g,h,f]):=λc v ⟨vs,e,u,q,k,a0,x,r,p,a1,y,n,s,a2,w,o,m,a3,i⟩=>⟨vs,e,u,q,k,a0,x,r,p,l c x a1,y,n,s,j c y a2,w,o,m,t c w a3,i⟩
theorem cDo (h:List Ob) (s:Setup) (f:SFit s) (b:Bk) (i:BkI s b) (q:Cm) (a:s.rates.length<4096):
  ACalls Tryz.prog 29 [BV s b,.ag (Km q)] h λr h'=>r= .tup [BV s (doP s b q).1,.ag (jE (doP s b q).2)]/\h'=h:=
 yr (Y8a h s f b i q a) λr h' ⟨⟨j,g,e,c,k1,k2,k3⟩,d⟩=>by
  subst c
  exact ⟨_,⟨rfl,d⟩,.two (.refl _) (.ag4 k1.weak k2.weak k3.weak)⟩
end Go.Proofs.YtfmldcilgbbimaaGreat.Ax
