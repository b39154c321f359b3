import Derived.Test.YtigdlmpjijhpaaaGreatBA
import Derived.Test.YtigdlmpjijhpaaaGreatB03
set_option linter.all false
namespace Go.Proofs.YtigdlmpjijhpaaaGreat.Ax
open Go Go.RowKit
mutual
theorem AR.ids{c:Ctx}(b:∀i,c.live i->i<c.n):∀(a:AV) (u:Value),AR c a u->a.lt c.n=true
 | .v _,_,_=>rfl
 | .sl e xs,_,⟨A,_,_,_,h⟩=>by simpa [AV.lt] using ARows.ids b A e 0 xs h
 | .tl id st,_,h=>by simpa [AV.lt] using b id h.2.1
 | .em,_,_=>rfl
 | .vw a e i n,_,⟨_,_,_,_,_,h,_⟩=>by simpa [AV.lt] using AR.ids b a _ h
 | .ptr id off,_,h=>by simpa [AV.lt] using b id h.1
 | .ep a e i k,_,⟨_,_,_,h,_⟩=>by simpa [AV.lt] using AR.ids b a _ h
 | .mp id,_,h=>by simpa [AV.lt] using b id h.1
 | .ag cs,_,⟨_,_,h⟩=>by simpa [AV.lt] using ARs.ids b cs _ h
 | .tup cs,_,⟨_,_,h⟩=>by simpa [AV.lt] using ARs.ids b cs _ h
 | .fn f d cs,_,⟨_,_,_,h,k⟩=>by simpa [AV.lt] using ⟨ARs.ids b d _ h,ARs.ids b cs _ k⟩
 | .bad,_,_=>rfl
theorem ARs.ids{c:Ctx}(b:∀i,c.live i->i<c.n):∀(aZ:List AV) (vs:List Value),ARs c aZ vs->qz c.n aZ=true
 | [],_,_=>rfl
 | a::aZ,_,⟨_,r,_,d,e⟩=>by simpa [qz] using ⟨AR.ids b a _ d,ARs.ids b aZ _ e⟩
theorem ARows.ids{c:Ctx}(a:∀i,c.live i->i<c.n)(A:Option Addr)(e:Nat):∀(i:Nat) (rs:List (List AV)),ARows c A e i rs->qQ c.n rs=true
 | _,[],_=>rfl
 | i,r::rs,⟨⟨_,b⟩,d⟩=>by simpa [qQ] using ⟨ACells.ids a A (i*e) r b,ARows.ids a A e (i+1) rs d⟩
theorem ACells.ids{c:Ctx}(b:∀i,c.live i->i<c.n)(A:Option Addr):∀(k:Nat) (aZ:List AV),ACells c A k aZ->qz c.n aZ=true
 | _,[],_=>rfl
 | k,a::aZ,⟨⟨_,_,_,_,e⟩,d⟩=>by simpa [qz] using ⟨AR.ids b a _ e,ACells.ids b A (k+1) aZ d⟩
end
theorem MapRel.ids{c:Ctx}(d:∀i,c.live i->i<c.n):∀(l:List (AV × AV)) (es:List MapEntry),MapRel c l es->(l.all λx=>x.1.lt c.n && x.2.lt c.n)=true
 | [],_,_=>rfl
 | (a,b)::r,_,⟨e,q,j,f,g,h⟩=>by
   simp only[List.all_cons,zl]
   exact⟨⟨AR.ids d a _ f,AR.ids d b _ g⟩,MapRel.ids d r q h⟩
theorem qua:∀(n:Nat) (xs:List (List AV)),qz n xs.flatten=true->qQ n xs=true
 | _,[],_=>rfl
 | n,r::rs,h=>by
   have key:∀(a b:List AV),qz n (a++b)=true->qz n a=true/\qz n b=true:=λa=>by
    induction a with
    | nil=>intro b h;exact⟨rfl,h⟩
    | cons x a c=>intro b h;simp only[List.cons_append,qz,zl] at h ⊢;exact⟨⟨h.1,(c b h.2).1⟩,(c b h.2).2⟩
   rw[List.flatten_cons] at h
   have:=key r rs.flatten h
   simp only[qQ,zl]
   exact⟨this.1,qua n rs this.2⟩
section
variable {B:Nat} {w w':World} {g g':Gh} {h h' L:List Ob} {P:Program} {N:Nat} {T:Env} {Q:jF} {c:Code}
theorem J8:∀i,(ctx w g h).live i->i<(ctx w g h).n:=λi ⟨o,a,_⟩=>vH a
theorem HOk.ids(k:HOk B w g h):∀o∈h,Kq h.length o=true:=λo d=>by
 obtain⟨i,hi⟩:=List.mem_iff_getElem?.1 d
 have:=k.ok i o hi
 cases o with
 | box ty cs=>obtain⟨_,vs,_,a⟩:=this;exact ARs.ids J8 cs _ a
 | row ty e xs st=>obtain⟨_,_,cells,_,a⟩:=this;exact qua _ _ (ARs.ids J8 _ _ a)
 | mapo l=>
   obtain⟨_,es,q,l',_,c,a,_⟩:=this
   have b:=MapRel.ids J8 l' _ a
   have:(l.all λx=>x.1.lt h.length && x.2.lt h.length)=true:=by
    rw[zR] at b⊢
    exact λx f=>b x (c.mem_iff.2 f)
   exact this
 | raw _ _ _ _=>exact ARs.ids J8 _ _ this.2.2
 | gone=>rfl
 | res=>rfl
theorem Good.drop(k:Good B w g h w' g' (h'++L))(f:h'.length=h.length)(hi:∀o∈h',Kq h'.length o=true):Good B w g h w' g' h':=by
 have ok:=HOk.take k.ok hi
 have d:=xD w' g' h' L
 refine⟨ok,⟨λa u e=>d.rd a u (k.le.rd a u e),by simp[ctx,f],λi hi=>?_,λi hi=>k.le.β i hi,λi hi s b=>?_⟩,k.below,k.size⟩
 ·have c:=J8 i hi
  have c:i<h.length:=c
  exact d.live i (by omega) (k.le.live i hi)
 ·refine k.le.tok i hi s ?_
  have c:i<h.length:=J8 i hi
  rw[<-d.tok i (by omega)]
  exact b
theorem xza{n:Nat}{id:Nat}{o:Ob}(c:∀o∈h,Kq n o=true)(b:Kq n o=true):∀p∈h.set id o,Kq n p=true:=λp a=>by
 rcases List.mem_or_eq_of_mem_set a with a|a
 ·exact c p a
 ·exact a▸b
theorem Ju(k:HOk B w g h)(hB:B<=w.heap.size){id:Nat}{ty e:Nat}{xs:List (List AV)}{st:Nat}(d:h[id]? =some (.row ty e xs st)):
  Good B w g h w g (h.set id .gone)/\∀u,AR (ctx w g h) (.tl id st) u->AR (ctx w g (h.set id .gone)) (.sl e xs) u:=by
 have F:w.grownBy w ((Ob.row ty e xs st).blk g id):=⟨rfl,rfl,rfl,zn _,λ_ _ _=>rfl⟩
 have C:=Le.turn (g':=g) (o':= .gone) d rfl F (λ_ _=>rfl) (λ_ _=>rfl) (λb z=>by cases z) (λ_=>⟨rfl,λs L=>by cases L⟩)
 refine⟨⟨k.turn d F (λ_ _=>rfl) (λ_ _=>rfl) (λb z=>by cases z) C trivial,C,Below.refl _ _,hB⟩,λu I=>?_⟩
 have M:z6 h (.tl id st)=some xs:=by simp[z6,d]
 have K:eOf h (.tl id st)=some e:=by simp[eOf,d]
 obtain⟨A,q,H,P,J,_⟩:=wu k _ I M
 have n:=Jo I d
 have t:=J e K
 refine⟨A,q,H,P,?_⟩
 have key:∀(r:List AV) (i:Nat) (k0:Nat),(∀j a,r[j]? =some a->∃l u,A=some l/\w.cell? (l.add (i*e+(k0+j)))=some u/\AR (ctx w g h) a u)->ACells (ctx w g (h.set id .gone)) A (i*e+k0) r:=by
  intro r i
  induction r with
  | nil=>intro _ _;trivial
  | cons x r v=>
    intro k0 D
    obtain⟨l,N,G,Q,z3⟩:=D 0 x rfl
    refine⟨⟨l,N,G,⟨λ⟨j,p,m,f⟩=>?_,by simpa using Q⟩,AR.le C _ _ z3⟩,?_⟩
    ·
     have o:(g.cur id).ownBlock=some l.block:=by
      have:g.cur id=u:=n.symm
      rw[this,H,G];rfl
     by_cases c:j=id
     ·subst c
      rw[zo (vH d)] at m
      injection m with m
      subst m
      cases f
     ·rw[zc (λe=>c e.symm)] at m
      have y:(l.add (i*e+k0)).block=l.block:=by unfold Addr.add;split<;>rfl
      rw[y] at f
      exact k.apart j id p _ _ c m d f o
    ·have:=v (k0+1) λj a c=>by
      have:=D (j+1) a c
      rw[show k0+(j+1)=k0+1+j by omega] at this
      exact this
     rw[show i*e+k0+1=i*e+(k0+1) by omega]
     exact this
 have rows:∀(ys:List (List AV)) (i:Nat),(∀j r,ys[j]? =some r->xs[i+j]? =some r)->ARows (ctx w g (h.set id .gone)) A e i ys:=by
  intro ys
  induction ys with
  | nil=>intro _ _;trivial
  | cons r ys v=>
    intro i E
    have h0:=E 0 r rfl
    simp only[Nat.add_zero] at h0
    refine⟨⟨t.len r (qi h0),?_⟩,v (i+1) λj O c=>by
     have:=E (j+1) O c
     rw[show i+(j+1)=i+1+j by omega] at this
     exact this⟩
    have:=key r i 0 λj a c=>by
     rw[Nat.zero_add]
     exact t.cell i j r a h0 c
    simpa using this
 exact rows xs 0 λj r c=>by simpa using c
theorem Vp{B:Bs}{φ:Nat->Ob}{g:Gh}{h':List Ob}{c:Env}{g':Gh}{a:Act}(i:ResK h h')(k1:Good B.b w g (fill φ h) w g' (fill φ h'))(f:wF (ctx w g' (fill φ h')) c a)(d:a.defers=B.ds)(e:a.tmps.size=N):Aft N B φ w g h c h' a w:=
 ⟨g',i,⟨k1.ok,k1.size,f,d,e⟩,k1⟩
theorem vza{B:Bs}(d:Nat){id st:Nat}{ty e:Nat}{xs:List (List AV)}(f:T d= .tl id st)(b:h[id]? =some (.row ty e xs st))(k:AWp P N B c Q (upd T d (.sl e xs)) (h.set id .gone)):AWp P N B c Q T h:=
 jva k λφ j w g a r=>by
  obtain⟨k1,k2⟩:=Ju r.ok r.hB (qy b rfl)
  rw[<-jc rfl] at k1 k2
  refine Vp (qj b rfl) k1 (λi=>?_) r.d r.n
  unfold upd
  split
  ·rename_i hi
   subst hi
   have:=r.t i
   rw[f] at this
   exact k2 _ this
  ·exact AR.le k1.le _ _ (r.t i)
theorem QE{B:Bs}(d:Nat){x:AV}(l:T d=x)(j:z6 h x=some [])(k1:∀m,AWp P N B c Q (upd T d (.v (.slice none 0 m))) h)(k2:AWp P N B c Q (upd T d .em) h):AWp P N B c Q T h:=λφ b w g a r=>by
 have f:=r.t d
 rw[l] at f
 obtain⟨A,m,e,_⟩:=wu r.ok _ f (xT _ j)
 have put:∀y,AR (ctx w g (fill φ h)) y (a.tmps.getD d undef)->Rel N B w g (fill φ h) a (upd T d y):=λy k=>⟨r.ok,r.hB,λi=>by
  unfold upd
  split
  ·rename_i hi;subst hi;exact k
  ·exact r.t i,r.d,r.n⟩
 cases A with
 | none=>exact k1 m φ b w g a (put _ e)
 | some o=>exact k2 φ b w g a (put _ ⟨o,m,e⟩)
theorem Q1a(k:HOk B w g h)(hB:B<=w.heap.size):Good B w g h w g (h++[.res]):=by
 have c:=Le.more (g:=g) (g':=g) (h:=h) (o:= .res) (Below.refl _ w) (λ_ _=>rfl) (λ_ _=>rfl) (λb a=>by cases a)
 exact⟨k.more (Below.refl _ w) (λ_ _=>rfl) (λ_ _=>rfl) (λb a=>by cases a) c trivial,c,Below.refl _ _,hB⟩
theorem J9(hB:B<=w.heap.size):∀(n:Nat) {h:List Ob},HOk B w g h->Good B w g h w g (h++List.replicate n .res)
 | 0,h,k=>by simpa using Good.refl k hB
 | n+1,h,k=>by
   have k1:=Q1a k hB
   have k2:=J9 hB n k1.ok
   rw[zp] at k2
   exact k1.trans k2
def KeepLt(h a:List Ob):Prop:=∀φ:Nat->Ob,Upto φ h.length->(∀o∈fill φ h,Kq h.length o=true)->∀o∈fill φ a,Kq a.length o=true
theorem KeepLt.refl:KeepLt h h:=λ_ _ k=>k
theorem KeepLt.set{a:List Ob}(k:KeepLt h a){i:Nat}{o:Ob}(b:o.isRes=false)(c:Kq a.length o=true):KeepLt h (a.set i o):=λφ d q=>by
 rw[jc b,zz]
 exact xza (k φ d q) c
def xAa(P:Program)(rs:List ResultVar)(h:List Ob)(R:AV->List Ob->Prop):jF
 | .normal,T,h' | .ret,T,h'=>∃r,Z5 P T h' rs=some r/\(R r h'∨∃a L,h'=a++L/\a.length=h.length/\r.lt a.length=true/\KeepLt h a/\R r a)
 | _,_,_=>False
theorem xF{f:FuncId}{fn:Func}{c:Code}{aZ:List AV}{R:AV->List Ob->Prop}{rs:List ResultVar}{N:Nat}(C:P.funcs[f]? =some fn)(F:fn.body=some c)(D:fn.ntmps=N)(o:fn.results.toList=rs)(E:aZ.length<=N)(j:XQ P f=true)(hex:∃r h',R r h'/\ResK h h')
  (k:∀B,AWp P N B c (xAa P rs h R) (nth aZ) h):ACalls P f aZ h R:=⟨j,hex,λφ t B w g vs z hB d=>by
 subst D o
 have:=z0a (R:=λr h'=>R r h'∨∃a L,h'=a++L/\a.length=h.length/\r.lt a.length=true/\KeepLt h a/\R r a) C F E j (let ⟨r,h',l,p⟩:=hex;⟨r,h',.inl l,p⟩)
  (λB=>(k B).mono λe T h' q=>by cases e<;>exact q)
 refine(this.2.2 φ t B w g vs z hB d).mono λe w' ⟨v,r,h',g',y,s,x,m,n⟩=>?_
 rcases s with s|⟨a,L,rfl,l,p,G,A⟩
 ·exact⟨v,r,h',g',y,s,x,m,n⟩
 ·have u:Upto φ a.length:=t.mono (by omega)
  rw[jC u] at m n
  refine⟨v,r,a,g',y,A,λi hi=>?_,m.drop (by rw[q9,q9,l]) ?_,AR.less (xD w' g' (fill φ a) L) _ _ (by rw[q9];exact p) n⟩
  ·have:=x i hi
   rw[zH (by rw[l];exact(zd.1 hi).1)] at this
   exact this
  ·rw[q9]
   have b:=z.ids
   rw[q9] at b
   exact G φ t b⟩
def xw(P:Program)(f:FuncId)(aZ:List AV)(r:AV):Prop:=∀h,ACalls P f aZ h λa h'=>a=r/\h'=h
theorem qva{rs:List ResultVar}{r:AV}{T:Env}{L:List Ob}(a:Z5 P T (h++L) rs=some r)(c:r.lt h.length=true):xAa P rs h (λb h'=>b=r/\h'=h) .ret T (h++L):=
 ⟨r,a,.inr ⟨h,L,rfl,rfl,c,.refl,rfl,rfl⟩⟩
theorem XU{rs:List ResultVar}{r:AV}{T:Env}(a:Z5 P T h rs=some r):xAa P rs h (λb h'=>b=r/\h'=h) .ret T h:=
 ⟨r,a,.inl ⟨rfl,rfl⟩⟩
theorem zm{rs:List ResultVar}{r:AV}{T:Env}{H:List Ob}(b:Z5 P T H rs=some r)(a:H=h∨∃L,H=h++L/\r.lt h.length=true:=by first|exact .inl rfl|exact .inr ⟨_,rfl,rfl⟩):xAa P rs h (λc h'=>c=r/\h'=h) .ret T H:=by
 rcases a with e|⟨L,e,a⟩
 ·subst e
  exact XU b
 ·subst e
  exact qva b a
end
