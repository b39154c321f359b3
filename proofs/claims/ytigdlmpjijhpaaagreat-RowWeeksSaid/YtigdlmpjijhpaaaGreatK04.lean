/-
  Joined.
-/
import Derived.Test.YtigdlmpjijhpaaaGreatK03
set_option linter.unusedSimpArgs false
set_option linter.unusedVariables false
namespace Go.Proofs.YtigdlmpjijhpaaaGreat.Ax
open Go Go.RowKit
mutual
theorem AR.ids {c:Ctx} (b:∀i,c.live i->i<c.n):∀(a:AV) (u:Value),AR c a u->a.lt c.n=true
 | .v _,_,_=>rfl
 | .sl e xs,_,⟨A,_,_,_,h⟩=>by simpa [AV.lt] using ARows.ids b A e 0 xs h
 | .tl id st,_,h=>by simpa [AV.lt] using b id h.2.1
 | .em,_,_=>rfl
 | .vw a e i n,_,⟨_,_,_,_,_,h,_⟩=>by simpa [AV.lt] using AR.ids b a _ h
 | .ptr id off,_,h=>by simpa [AV.lt] using b id h.1
 | .ep a e i k,_,⟨_,_,_,h,_⟩=>by simpa [AV.lt] using AR.ids b a _ h
 | .mp id,_,h=>by simpa [AV.lt] using b id h.1
 | .ag d,_,⟨_,_,h⟩=>by simpa [AV.lt] using ARs.ids b d _ h
 | .tup d,_,⟨_,_,h⟩=>by simpa [AV.lt] using ARs.ids b d _ h
 | .fn f g d,_,⟨_,_,_,h,k⟩=>by simpa [AV.lt] using ⟨ARs.ids b g _ h,ARs.ids b d _ k⟩
 | .bad,_,_=>rfl
theorem ARs.ids {c:Ctx} (b:∀i,c.live i->i<c.n):∀(aZ:List AV) (vs:List Value),ARs c aZ vs->zQ c.n aZ=true
 | [],_,_=>rfl
 | a::aZ,_,⟨_,r,_,e,d⟩=>by simpa [zQ] using ⟨AR.ids b a _ e,ARs.ids b aZ _ d⟩
theorem ARows.ids {c:Ctx} (a:∀i,c.live i->i<c.n) (A:Option Addr) (e:Nat):∀(i:Nat) (rs:List (List AV)),ARows c A e i rs->qb c.n rs=true
 | _,[],_=>rfl
 | i,r::rs,⟨⟨_,d⟩,b⟩=>by simpa [qb] using ⟨ACells.ids a A (i*e) r d,ARows.ids a A e (i+1) rs b⟩
theorem ACells.ids {c:Ctx} (b:∀i,c.live i->i<c.n) (A:Option Addr):∀(k:Nat) (aZ:List AV),ACells c A k aZ->zQ c.n aZ=true
 | _,[],_=>rfl
 | k,a::aZ,⟨⟨_,_,_,_,d⟩,e⟩=>by simpa [zQ] using ⟨AR.ids b a _ d,ACells.ids b A (k+1) aZ e⟩
end
theorem MapRel.ids {c:Ctx} (d:∀i,c.live i->i<c.n):∀(l:List (AV × AV)) (es:List MapEntry),MapRel c l es->(l.all λx=>x.1.lt c.n && x.2.lt c.n)=true
 | [],_,_=>rfl
 | (a,b)::r,_,⟨e,q,j,h,f,g⟩=>by
   simp only[List.all_cons,Bool.and_eq_true]
   exact ⟨⟨AR.ids d a _ h,AR.ids d b _ f⟩,MapRel.ids d r q g⟩
theorem KP:∀(n:Nat) (xs:List (List AV)),zQ n xs.flatten=true->qb n xs=true
 | _,[],_=>rfl
 | n,r::rs,h=>by
   have key:∀(a b:List AV),zQ n (a++b)=true->zQ n a=true/\zQ n b=true:=λa=>by
    induction a with
    | nil=>intro b h;exact ⟨rfl,h⟩
    | cons x a c=>intro b h;simp only[List.cons_append,zQ,Bool.and_eq_true] at h ⊢;exact ⟨⟨h.1,(c b h.2).1⟩,(c b h.2).2⟩
   rw[List.flatten_cons] at h
   have:=key r rs.flatten h
   simp only[qb,Bool.and_eq_true]
   exact ⟨this.1,KP n rs this.2⟩
section
variable {B:Nat} {w w':World} {g g':Gh} {h h' L:List Ob} {P:Program} {N:Nat} {T:Env} {Q:jr} {c:Code}
theorem Ze:∀i,(ctx w g h).live i->i<(ctx w g h).n:=λi ⟨o,a,_⟩=>j8 a
theorem HOk.ids (k:HOk B w g h):∀o∈h,Kq h.length o=true:=λo m=>by
 obtain ⟨i,j⟩:=List.mem_iff_getElem?.1 m
 have:=k.ok i o j
 cases o with
 | box ty c=>obtain ⟨_,vs,_,a⟩:=this;exact ARs.ids Ze c _ a
 | row ty e xs st=>obtain ⟨_,_,cells,_,a⟩:=this;exact KP _ _ (ARs.ids Ze _ _ a)
 | mapo l=>
   obtain ⟨_,es,q,l',_,d,a,_⟩:=this
   have b:=MapRel.ids Ze l' _ a
   have:(l.all λx=>x.1.lt h.length && x.2.lt h.length)=true:=by
    rw[List.all_eq_true] at b⊢
    exact λx f=>b x (d.mem_iff.2 f)
   exact this
 | raw _ _ _ _=>exact ARs.ids Ze _ _ this.2.2
 | gone=>rfl
 | res=>rfl
theorem Good.drop (k:Good B w g h w' g' (h'++L)) (j:h'.length=h.length) (b:∀o∈h',Kq h'.length o=true):Good B w g h w' g' h':=by
 have ok:=HOk.take k.ok b
 have e:=km w' g' h' L
 refine ⟨ok,⟨λa u f=>e.rd a u (k.le.rd a u f),by simp[ctx,j],λi b=>?_,λi b=>k.le.β i b,λi b s c=>?_⟩,k.below,k.size⟩
 ·have d:=Ze i b
  have d:i<h.length:=d
  exact e.live i (by omega) (k.le.live i b)
 ·refine k.le.tok i b s ?_
  have d:i<h.length:=Ze i b
  rw[<-e.tok i (by omega)]
  exact c
theorem xNa {n:Nat} {id:Nat} {o:Ob} (b:∀o∈h,Kq n o=true) (c:Kq n o=true):∀p∈h.set id o,Kq n p=true:=λp a=>by
 rcases List.mem_or_eq_of_mem_set a with a | a
 ·exact b p a
 ·exact a▸c
theorem Jl (k:HOk B w g h) (hB:B<=w.heap.size) {id:Nat} {ty e:Nat} {xs:List (List AV)} {st:Nat} (f:h[id]? =some (.row ty e xs st)):
  Good B w g h w g (h.set id .gone)/\∀u,AR (ctx w g h) (.tl id st) u->AR (ctx w g (h.set id .gone)) (.sl e xs) u:=by
 have H:w.grownBy w ((Ob.row ty e xs st).blk g id):=⟨rfl,rfl,rfl,Nat.le_refl _,λ_ _ _=>rfl⟩
 have y:=Le.turn (g':=g) (o':= .gone) f rfl H (λ_ _=>rfl) (λ_ _=>rfl) (λb z=>by cases z) (λ_=>⟨rfl,λs O=>by cases O⟩)
 refine ⟨⟨k.turn f H (λ_ _=>rfl) (λ_ _=>rfl) (λb z=>by cases z) y trivial,y,Below.refl _ _,hB⟩,λu E=>?_⟩
 have N:zo h (.tl id st)=some xs:=by simp[zo,f]
 have L:eOf h (.tl id st)=some e:=by simp[eOf,f]
 obtain ⟨A,q,D,K,Q,_⟩:=xz k _ E N
 have t:=ZE E f
 have o:=Q e L
 refine ⟨A,q,D,K,?_⟩
 have key:∀(r:List AV) (i:Nat) (k0:Nat),(∀j a,r[j]? =some a->∃l u,A=some l/\w.cell? (l.add (i*e+(k0+j)))=some u/\AR (ctx w g h) a u)->ACells (ctx w g (h.set id .gone)) A (i*e+k0) r:=by
  intro r i
  induction r with
  | nil=>intro _ _;trivial
  | cons x r C=>
    intro k0 F
    obtain ⟨l,J,G,P,z3⟩:=F 0 x rfl
    refine ⟨⟨l,J,G,⟨λ⟨j,p,m,d⟩=>?_,by simpa using P⟩,AR.le y _ _ z3⟩,?_⟩
    ·
     have n:(g.cur id).ownBlock=some l.block:=by
      have:g.cur id=u:=t.symm
      rw[this,D,G];rfl
     by_cases c:j=id
     ·subst c
      rw[List.getElem?_set_self (j8 f)] at m
      injection m with m
      subst m
      cases d
     ·rw[List.getElem?_set_ne (λe=>c e.symm)] at m
      have v:(l.add (i*e+k0)).block=l.block:=by unfold Addr.add;split<;>rfl
      rw[v] at d
      exact k.apart j id p _ _ c m f d n
    ·have:=C (k0+1) λj a c=>by
      have:=F (j+1) a c
      rw[show k0+(j+1)=k0+1+j by omega] at this
      exact this
     rw[show i*e+k0+1=i*e+(k0+1) by omega]
     exact this
 have rows:∀(ys:List (List AV)) (i:Nat),(∀j r,ys[j]? =some r->xs[i+j]? =some r)->ARows (ctx w g (h.set id .gone)) A e i ys:=by
  intro ys
  induction ys with
  | nil=>intro _ _;trivial
  | cons r ys C=>
    intro i I
    have h0:=I 0 r rfl
    simp only[Nat.add_zero] at h0
    refine ⟨⟨o.len r (List.mem_of_getElem? h0),?_⟩,C (i+1) λj M c=>by
     have:=I (j+1) M c
     rw[show i+(j+1)=i+1+j by omega] at this
     exact this⟩
    have:=key r i 0 λj a c=>by
     rw[Nat.zero_add]
     exact o.cell i j r a h0 c
    simpa using this
 exact rows xs 0 λj r c=>by simpa using c
theorem jja {B:Bs} {φ:Nat->Ob} {g:Gh} {h':List Ob} {c:Env} {g':Gh} {a:Act} (i:ResK h h') (k1:Good B.b w g (fill φ h) w g' (fill φ h')) (e:kW (ctx w g' (fill φ h')) c a) (d:a.defers=B.ds) (f:a.tmps.size=N):Aft N B φ w g h c h' a w:=
 ⟨g',i,⟨k1.ok,k1.size,e,d,f⟩,k1⟩
theorem Y9 {B:Bs} (d:Nat) {id st:Nat} {ty e:Nat} {xs:List (List AV)} (j:T d= .tl id st) (b:h[id]? =some (.row ty e xs st)) (k:AWp P N B c Q (upd T d (.sl e xs)) (h.set id .gone)):AWp P N B c Q T h:=
 v0a k λφ l w g a r=>by
  obtain ⟨k1,k2⟩:=Jl r.ok r.hB (zM b rfl)
  rw[<-q9 rfl] at k1 k2
  refine jja (zK b rfl) k1 (λi=>?_) r.d r.n
  unfold upd
  split
  ·rename_i f
   subst f
   have:=r.t i
   rw[j] at this
   exact k2 _ this
  ·exact AR.le k1.le _ _ (r.t i)
theorem qza {B:Bs} (d:Nat) {x:AV} (k:T d=x) (l:zo h x=some []) (k1:∀m,AWp P N B c Q (upd T d (.v (.slice none 0 m))) h) (k2:AWp P N B c Q (upd T d .em) h):AWp P N B c Q T h:=λφ f w g a r=>by
 have e:=r.t d
 rw[k] at e
 obtain ⟨A,m,b,_⟩:=xz r.ok _ e (ji _ l)
 have put:∀y,AR (ctx w g (fill φ h)) y (a.tmps.getD d undef)->Rel N B w g (fill φ h) a (upd T d y):=λy j=>⟨r.ok,r.hB,λi=>by
  unfold upd
  split
  ·rename_i p;subst p;exact j
  ·exact r.t i,r.d,r.n⟩
 cases A with
 | none=>exact k1 m φ f w g a (put _ b)
 | some o=>exact k2 φ f w g a (put _ ⟨o,m,b⟩)
theorem xOa (k:HOk B w g h) (hB:B<=w.heap.size):Good B w g h w g (h++[.res]):=by
 have c:=Le.more (g:=g) (g':=g) (h:=h) (o:= .res) (Below.refl _ w) (λ_ _=>rfl) (λ_ _=>rfl) (λb a=>by cases a)
 exact ⟨k.more (Below.refl _ w) (λ_ _=>rfl) (λ_ _=>rfl) (λb a=>by cases a) c trivial,c,Below.refl _ _,hB⟩
theorem QK (hB:B<=w.heap.size):∀(n:Nat) {h:List Ob},HOk B w g h->Good B w g h w g (h++List.replicate n .res)
 | 0,h,k=>by simpa using Good.refl k hB
 | n+1,h,k=>by
   have k1:=xOa k hB
   have k2:=QK hB n k1.ok
   rw[List.append_assoc] at k2
   exact k1.trans k2
def KeepLt (h a:List Ob):Prop:=∀φ:Nat->Ob,Upto φ h.length->(∀o∈fill φ h,Kq h.length o=true)->∀o∈fill φ a,Kq a.length o=true
theorem KeepLt.refl:KeepLt h h:=λ_ _ k=>k
theorem KeepLt.set {a:List Ob} (k:KeepLt h a) {i:Nat} {o:Ob} (c:o.isRes=false) (b:Kq a.length o=true):KeepLt h (a.set i o):=λφ d q=>by
 rw[q9 c,List.length_set]
 exact xNa (k φ d q) b
def jka (P:Program) (rs:List ResultVar) (h:List Ob) (R:AV->List Ob->Prop):jr
 | .normal,T,h' | .ret,T,h'=>∃r,JJ P T h' rs=some r/\(R r h'∨∃a L,h'=a++L/\a.length=h.length/\r.lt a.length=true/\KeepLt h a/\R r a)
 | _,_,_=>False
theorem vu {f:FuncId} {fn:Func} {c:Code} {aZ:List AV} {R:AV->List Ob->Prop} {rs:List ResultVar} {N:Nat} (G:P.funcs[f]? =some fn) (E:fn.body=some c) (C:fn.ntmps=N) (m:fn.results.toList=rs) (D:aZ.length<=N) (j:Xc P f=true) (hex:∃r h',R r h'/\ResK h h')
  (k:∀B,AWp P N B c (jka P rs h R) (nth aZ) h):ACalls P f aZ h R:=⟨j,hex,λφ o B w g vs y hB d=>by
 subst C m
 have:=Ks (R:=λr h'=>R r h'∨∃a L,h'=a++L/\a.length=h.length/\r.lt a.length=true/\KeepLt h a/\R r a) G E D j (let ⟨r,h',l,p⟩:=hex;⟨r,h',.inl l,p⟩)
  (λB=>(k B).mono λe T h' q=>by cases e<;>exact q)
 refine (this.2.2 φ o B w g vs y hB d).mono λe w' ⟨v,r,h',g',x,n,A,u,s⟩=>?_
 rcases n with n | ⟨a,L,rfl,l,p,H,F⟩
 ·exact ⟨v,r,h',g',x,n,A,u,s⟩
 ·have t:Upto φ a.length:=o.mono (by omega)
  rw[jh t] at u s
  refine ⟨v,r,a,g',x,F,λi z=>?_,u.drop (by rw[qi,qi,l]) ?_,AR.less (km w' g' (fill φ a) L) _ _ (by rw[qi];exact p) s⟩
  ·have:=A i z
   rw[List.getElem?_append_left (by rw[l];exact (List.getElem?_eq_some_iff.1 z).1)] at this
   exact this
  ·rw[qi]
   have b:=y.ids
   rw[qi] at b
   exact H φ o b⟩
def jf (P:Program) (f:FuncId) (aZ:List AV) (r:AV):Prop:=∀h,ACalls P f aZ h λa h'=>a=r/\h'=h
theorem ze {rs:List ResultVar} {r:AV} {T:Env} {L:List Ob} (b:JJ P T (h++L) rs=some r) (c:r.lt h.length=true):jka P rs h (λa h'=>a=r/\h'=h) .ret T (h++L):=
 ⟨r,b,.inr ⟨h,L,rfl,rfl,c,.refl,rfl,rfl⟩⟩
theorem zc {rs:List ResultVar} {r:AV} {T:Env} (b:JJ P T h rs=some r):jka P rs h (λa h'=>a=r/\h'=h) .ret T h:=
 ⟨r,b,.inl ⟨rfl,rfl⟩⟩
end
end Go.Proofs.YtigdlmpjijhpaaaGreat.Ax
