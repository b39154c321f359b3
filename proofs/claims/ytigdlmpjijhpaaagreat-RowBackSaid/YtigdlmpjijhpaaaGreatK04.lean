import Derived.Test.YtigdlmpjijhpaaaGreatKA
import Derived.Test.YtigdlmpjijhpaaaGreatK03
set_option linter.all false
namespace Go.Proofs.YtigdlmpjijhpaaaGreat.Ax
open Go Go.RowKit
mutual
theorem AR.ids{c:Ctx}(b:∀i,c.live i->i<c.n):∀(a:AV) (u:Value),AR c a u->a.lt c.n=true
 | .v _,_,_=>rfl
 | .sl e xs,_,⟨A,_,_,_,h⟩=>by simpa [AV.lt] using ARows.ids b A e 0 xs h
 | .tl id st,_,h=>by simpa [AV.lt] using b id h.2.1
 | .em,_,_=>rfl
 | .vw a e i n,_,⟨_,_,_,_,_,h,_⟩=>by simpa [AV.lt] using AR.ids b a _ h
 | .ptr id off,_,h=>by simpa [AV.lt] using b id h.1
 | .ep a e i k,_,⟨_,_,_,h,_⟩=>by simpa [AV.lt] using AR.ids b a _ h
 | .mp id,_,h=>by simpa [AV.lt] using b id h.1
 | .ag cs,_,⟨_,_,h⟩=>by simpa [AV.lt] using ARs.ids b cs _ h
 | .tup cs,_,⟨_,_,h⟩=>by simpa [AV.lt] using ARs.ids b cs _ h
 | .fn f d cs,_,⟨_,_,_,h,k⟩=>by simpa [AV.lt] using ⟨ARs.ids b d _ h,ARs.ids b cs _ k⟩
 | .bad,_,_=>rfl
theorem ARs.ids{c:Ctx}(b:∀i,c.live i->i<c.n):∀(aZ:List AV) (vs:List Value),ARs c aZ vs->qJ c.n aZ=true
 | [],_,_=>rfl
 | a::aZ,_,⟨_,r,_,d,e⟩=>by simpa [qJ] using ⟨AR.ids b a _ d,ARs.ids b aZ _ e⟩
theorem ARows.ids{c:Ctx}(a:∀i,c.live i->i<c.n)(A:Option Addr)(e:Nat):∀(i:Nat) (rs:List (List AV)),ARows c A e i rs->qZ c.n rs=true
 | _,[],_=>rfl
 | i,r::rs,⟨⟨_,b⟩,d⟩=>by simpa [qZ] using ⟨ACells.ids a A (i*e) r b,ARows.ids a A e (i+1) rs d⟩
theorem ACells.ids{c:Ctx}(b:∀i,c.live i->i<c.n)(A:Option Addr):∀(k:Nat) (aZ:List AV),ACells c A k aZ->qJ c.n aZ=true
 | _,[],_=>rfl
 | k,a::aZ,⟨⟨_,_,_,_,e⟩,d⟩=>by simpa [qJ] using ⟨AR.ids b a _ e,ACells.ids b A (k+1) aZ d⟩
end
theorem MapRel.ids{c:Ctx}(d:∀i,c.live i->i<c.n):∀(l:List (AV × AV)) (es:List MapEntry),MapRel c l es->(l.all λx=>x.1.lt c.n && x.2.lt c.n)=true
 | [],_,_=>rfl
 | (a,b)::r,_,⟨e,q,j,f,g,h⟩=>by
   simp only[List.all_cons,zj]
   exact⟨⟨AR.ids d a _ f,AR.ids d b _ g⟩,MapRel.ids d r q h⟩
theorem Yw:∀(n:Nat) (xs:List (List AV)),qJ n xs.flatten=true->qZ n xs=true
 | _,[],_=>rfl
 | n,r::rs,h=>by
   have key:∀(a b:List AV),qJ n (a++b)=true->qJ n a=true/\qJ n b=true:=λa=>by
    induction a with
    | nil=>intro b h;exact⟨rfl,h⟩
    | cons x a c=>intro b h;simp only[List.cons_append,qJ,zj] at h ⊢;exact⟨⟨h.1,(c b h.2).1⟩,(c b h.2).2⟩
   rw[List.flatten_cons] at h
   have:=key r rs.flatten h
   simp only[qZ,zj]
   exact⟨this.1,Yw n rs this.2⟩
section
variable {B:Nat} {w w':World} {g g':Gh} {h h' L:List Ob} {P:Program} {N:Nat} {T:Env} {Q:jA} {c:Code}
theorem Q0:∀i,(ctx w g h).live i->i<(ctx w g h).n:=λi ⟨o,a,_⟩=>kX a
theorem HOk.ids(k:HOk B w g h):∀o∈h,Vn h.length o=true:=λo c=>by
 obtain⟨i,hi⟩:=List.mem_iff_getElem?.1 c
 have:=k.ok i o hi
 cases o with
 | box ty cs=>obtain⟨_,vs,_,a⟩:=this;exact ARs.ids Q0 cs _ a
 | row ty e xs st=>obtain⟨_,_,cells,_,a⟩:=this;exact Yw _ _ (ARs.ids Q0 _ _ a)
 | mapo l=>
   obtain⟨_,es,q,l',_,f,a,_⟩:=this
   have b:=MapRel.ids Q0 l' _ a
   have:(l.all λx=>x.1.lt h.length && x.2.lt h.length)=true:=by
    rw[zL] at b⊢
    exact λx d=>b x (f.mem_iff.2 d)
   exact this
 | raw _ _ _ _=>exact ARs.ids Q0 _ _ this.2.2
 | gone=>rfl
 | res=>rfl
theorem Good.drop(k:Good B w g h w' g' (h'++L))(e:h'.length=h.length)(hi:∀o∈h',Vn h'.length o=true):Good B w g h w' g' h':=by
 have ok:=HOk.take k.ok hi
 have d:=kG w' g' h' L
 refine⟨ok,⟨λa u f=>d.rd a u (k.le.rd a u f),by simp[ctx,e],λi hi=>?_,λi hi=>k.le.β i hi,λi hi s c=>?_⟩,k.below,k.size⟩
 ·have b:=Q0 i hi
  have b:i<h.length:=b
  exact d.live i (by omega) (k.le.live i hi)
 ·refine k.le.tok i hi s ?_
  have b:i<h.length:=Q0 i hi
  rw[<-d.tok i (by omega)]
  exact c
theorem yea{n:Nat}{id:Nat}{o:Ob}(b:∀o∈h,Vn n o=true)(c:Vn n o=true):∀p∈h.set id o,Vn n p=true:=λp a=>by
 rcases List.mem_or_eq_of_mem_set a with a|a
 ·exact b p a
 ·exact a▸c
theorem Qu(k:HOk B w g h)(hB:B<=w.heap.size){id:Nat}{ty e:Nat}{xs:List (List AV)}{st:Nat}(d:h[id]? =some (.row ty e xs st)):
  Good B w g h w g (h.set id .gone)/\∀u,AR (ctx w g h) (.tl id st) u->AR (ctx w g (h.set id .gone)) (.sl e xs) u:=by
 have F:w.grownBy w ((Ob.row ty e xs st).blk g id):=⟨rfl,rfl,rfl,zo _,λ_ _ _=>rfl⟩
 have y:=Le.turn (g':=g) (o':= .gone) d rfl F (λ_ _=>rfl) (λ_ _=>rfl) (λb z=>by cases z) (λ_=>⟨rfl,λs Q=>by cases Q⟩)
 refine⟨⟨k.turn d F (λ_ _=>rfl) (λ_ _=>rfl) (λb z=>by cases z) y trivial,y,Below.refl _ _,hB⟩,λu H=>?_⟩
 have L:zZ h (.tl id st)=some xs:=by simp[zZ,d]
 have J:eOf h (.tl id st)=some e:=by simp[eOf,d]
 obtain⟨A,q,G,K,O,_⟩:=vG k _ H L
 have t:=Jz H d
 have n:=O e J
 refine⟨A,q,G,K,?_⟩
 have key:∀(r:List AV) (i:Nat) (k0:Nat),(∀j a,r[j]? =some a->∃l u,A=some l/\w.cell? (l.add (i*e+(k0+j)))=some u/\AR (ctx w g h) a u)->ACells (ctx w g (h.set id .gone)) A (i*e+k0) r:=by
  intro r i
  induction r with
  | nil=>intro _ _;trivial
  | cons x r v=>
    intro k0 D
    obtain⟨l,N,E,M,z3⟩:=D 0 x rfl
    refine⟨⟨l,N,E,⟨λ⟨j,p,m,f⟩=>?_,by simpa using M⟩,AR.le y _ _ z3⟩,?_⟩
    ·
     have o:(g.cur id).ownBlock=some l.block:=by
      have:g.cur id=u:=t.symm
      rw[this,G,E];rfl
     by_cases c:j=id
     ·subst c
      rw[zm (kX d)] at m
      injection m with m
      subst m
      cases f
     ·rw[zc (λe=>c e.symm)] at m
      have C:(l.add (i*e+k0)).block=l.block:=by unfold Addr.add;split<;>rfl
      rw[C] at f
      exact k.apart j id p _ _ c m d f o
    ·have:=v (k0+1) λj a c=>by
      have:=D (j+1) a c
      rw[show k0+(j+1)=k0+1+j by omega] at this
      exact this
     rw[show i*e+k0+1=i*e+(k0+1) by omega]
     exact this
 have rows:∀(ys:List (List AV)) (i:Nat),(∀j r,ys[j]? =some r->xs[i+j]? =some r)->ARows (ctx w g (h.set id .gone)) A e i ys:=by
  intro ys
  induction ys with
  | nil=>intro _ _;trivial
  | cons r ys v=>
    intro i I
    have h0:=I 0 r rfl
    simp only[Nat.add_zero] at h0
    refine⟨⟨n.len r (qn h0),?_⟩,v (i+1) λj P c=>by
     have:=I (j+1) P c
     rw[show i+(j+1)=i+1+j by omega] at this
     exact this⟩
    have:=key r i 0 λj a c=>by
     rw[Nat.zero_add]
     exact n.cell i j r a h0 c
    simpa using this
 exact rows xs 0 λj r c=>by simpa using c
theorem XZ{B:Bs}{φ:Nat->Ob}{g:Gh}{h':List Ob}{c:Env}{g':Gh}{a:Act}(e:ResK h h')(k1:Good B.b w g (fill φ h) w g' (fill φ h'))(f:wK (ctx w g' (fill φ h')) c a)(d:a.defers=B.ds)(i:a.tmps.size=N):Aft N B φ w g h c h' a w:=
 ⟨g',e,⟨k1.ok,k1.size,f,d,i⟩,k1⟩
theorem xia{B:Bs}(d:Nat){id st:Nat}{ty e:Nat}{xs:List (List AV)}(f:T d= .tl id st)(b:h[id]? =some (.row ty e xs st))(k:AWp P N B c Q (upd T d (.sl e xs)) (h.set id .gone)):AWp P N B c Q T h:=
 zDa k λφ j w g a r=>by
  obtain⟨k1,k2⟩:=Qu r.ok r.hB (qy b rfl)
  rw[<-jB rfl] at k1 k2
  refine XZ (qH b rfl) k1 (λi=>?_) r.d r.n
  unfold upd
  split
  ·rename_i hi
   subst hi
   have:=r.t i
   rw[f] at this
   exact k2 _ this
  ·exact AR.le k1.le _ _ (r.t i)
theorem kNa{B:Bs}(d:Nat){x:AV}(j:T d=x)(o:zZ h x=some [])(k1:∀m,AWp P N B c Q (upd T d (.v (.slice none 0 m))) h)(k2:AWp P N B c Q (upd T d .em) h):AWp P N B c Q T h:=λφ b w g a r=>by
 have e:=r.t d
 rw[j] at e
 obtain⟨A,m,f,_⟩:=vG r.ok _ e (xx _ o)
 have put:∀y,AR (ctx w g (fill φ h)) y (a.tmps.getD d undef)->Rel N B w g (fill φ h) a (upd T d y):=λy k=>⟨r.ok,r.hB,λi=>by
  unfold upd
  split
  ·rename_i hi;subst hi;exact k
  ·exact r.t i,r.d,r.n⟩
 cases A with
 | none=>exact k1 m φ b w g a (put _ f)
 | some l=>exact k2 φ b w g a (put _ ⟨l,m,f⟩)
theorem yfa(k:HOk B w g h)(hB:B<=w.heap.size):Good B w g h w g (h++[.res]):=by
 have c:=Le.more (g:=g) (g':=g) (h:=h) (o:= .res) (Below.refl _ w) (λ_ _=>rfl) (λ_ _=>rfl) (λb a=>by cases a)
 exact⟨k.more (Below.refl _ w) (λ_ _=>rfl) (λ_ _=>rfl) (λb a=>by cases a) c trivial,c,Below.refl _ _,hB⟩
theorem Q1(hB:B<=w.heap.size):∀(n:Nat) {h:List Ob},HOk B w g h->Good B w g h w g (h++List.replicate n .res)
 | 0,h,k=>by simpa using Good.refl k hB
 | n+1,h,k=>by
   have k1:=yfa k hB
   have k2:=Q1 hB n k1.ok
   rw[zn] at k2
   exact k1.trans k2
def KeepLt(h a:List Ob):Prop:=∀φ:Nat->Ob,Upto φ h.length->(∀o∈fill φ h,Vn h.length o=true)->∀o∈fill φ a,Vn a.length o=true
theorem KeepLt.refl:KeepLt h h:=λ_ _ k=>k
theorem KeepLt.set{a:List Ob}(k:KeepLt h a){i:Nat}{o:Ob}(d:o.isRes=false)(b:Vn a.length o=true):KeepLt h (a.set i o):=λφ c q=>by
 rw[jB d,zP]
 exact yea (k φ c q) b
def qxa(P:Program)(rs:List ResultVar)(h:List Ob)(R:AV->List Ob->Prop):jA
 | .normal,T,h' | .ret,T,h'=>∃r,Zi P T h' rs=some r/\(R r h'∨∃a L,h'=a++L/\a.length=h.length/\r.lt a.length=true/\KeepLt h a/\R r a)
 | _,_,_=>False
theorem yu{f:FuncId}{fn:Func}{c:Code}{aZ:List AV}{R:AV->List Ob->Prop}{rs:List ResultVar}{N:Nat}(D:P.funcs[f]? =some fn)(E:fn.body=some c)(G:fn.ntmps=N)(p:fn.results.toList=rs)(F:aZ.length<=N)(j:JF P f=true)(hex:∃r h',R r h'/\ResK h h')
  (k:∀B,AWp P N B c (qxa P rs h R) (nth aZ) h):ACalls P f aZ h R:=⟨j,hex,λφ t B w g vs y hB d=>by
 subst G p
 have:=W3 (R:=λr h'=>R r h'∨∃a L,h'=a++L/\a.length=h.length/\r.lt a.length=true/\KeepLt h a/\R r a) D E F j (let ⟨r,h',l,m⟩:=hex;⟨r,h',.inl l,m⟩)
  (λB=>(k B).mono λe T h' q=>by cases e<;>exact q)
 refine(this.2.2 φ t B w g vs y hB d).mono λe w' ⟨v,r,h',g',x,n,z,u,s⟩=>?_
 rcases n with n|⟨a,L,rfl,l,m,A,C⟩
 ·exact⟨v,r,h',g',x,n,z,u,s⟩
 ·have o:Upto φ a.length:=t.mono (by omega)
  rw[jO o] at u s
  refine⟨v,r,a,g',x,C,λi hi=>?_,u.drop (by rw[qT,qT,l]) ?_,AR.less (kG w' g' (fill φ a) L) _ _ (by rw[qT];exact m) s⟩
  ·have:=z i hi
   rw[zC (by rw[l];exact(zd.1 hi).1)] at this
   exact this
  ·rw[qT]
   have b:=y.ids
   rw[qT] at b
   exact A φ t b⟩
def xv(P:Program)(f:FuncId)(aZ:List AV)(r:AV):Prop:=∀h,ACalls P f aZ h λa h'=>a=r/\h'=h
theorem Yx{rs:List ResultVar}{r:AV}{T:Env}{L:List Ob}(c:Zi P T (h++L) rs=some r)(b:r.lt h.length=true):qxa P rs h (λa h'=>a=r/\h'=h) .ret T (h++L):=
 ⟨r,c,.inr ⟨h,L,rfl,rfl,b,.refl,rfl,rfl⟩⟩
theorem JI{rs:List ResultVar}{r:AV}{T:Env}(b:Zi P T h rs=some r):qxa P rs h (λa h'=>a=r/\h'=h) .ret T h:=
 ⟨r,b,.inl ⟨rfl,rfl⟩⟩
theorem zk{rs:List ResultVar}{r:AV}{T:Env}{H:List Ob}(b:Zi P T H rs=some r)(a:H=h∨∃L,H=h++L/\r.lt h.length=true:=by first|exact .inl rfl|exact .inr ⟨_,rfl,rfl⟩):qxa P rs h (λc h'=>c=r/\h'=h) .ret T H:=by
 rcases a with e|⟨L,e,a⟩
 ·subst e
  exact JI b
 ·subst e
  exact Yx b a
end
