/-
  Joined.
-/
import Derived.Test.YtfmldcilgbbimaaGreatK03
set_option linter.unusedSimpArgs false
set_option linter.unusedVariables false
namespace Go.Proofs.YtfmldcilgbbimaaGreat.Ax
open Go Go.RowKit
mutual
theorem AR.ids {c:Ctx} (b:∀i,c.live i->i<c.n):∀(a:AV) (u:Value),AR c a u->a.lt c.n=true
 | .v _,_,_=>rfl
 | .sl e xs,_,⟨A,_,_,_,h⟩=>by simpa [AV.lt] using ARows.ids b A e 0 xs h
 | .tl id st,_,h=>by simpa [AV.lt] using b id h.2.1
 | .em,_,_=>rfl
 | .vw a e i n,_,⟨_,_,_,_,_,h,_⟩=>by simpa [AV.lt] using AR.ids b a _ h
 | .ptr id off,_,h=>by simpa [AV.lt] using b id h.1
 | .ep a e i k,_,⟨_,_,_,h,_⟩=>by simpa [AV.lt] using AR.ids b a _ h
 | .mp id,_,h=>by simpa [AV.lt] using b id h.1
 | .ag d,_,⟨_,_,h⟩=>by simpa [AV.lt] using ARs.ids b d _ h
 | .tup d,_,⟨_,_,h⟩=>by simpa [AV.lt] using ARs.ids b d _ h
 | .fn f g d,_,⟨_,_,_,h,k⟩=>by simpa [AV.lt] using ⟨ARs.ids b g _ h,ARs.ids b d _ k⟩
 | .bad,_,_=>rfl
theorem ARs.ids {c:Ctx} (b:∀i,c.live i->i<c.n):∀(aZ:List AV) (vs:List Value),ARs c aZ vs->zP c.n aZ=true
 | [],_,_=>rfl
 | a::aZ,_,⟨_,r,_,d,e⟩=>by simpa [zP] using ⟨AR.ids b a _ d,ARs.ids b aZ _ e⟩
theorem ARows.ids {c:Ctx} (a:∀i,c.live i->i<c.n) (A:Option Addr) (e:Nat):∀(i:Nat) (rs:List (List AV)),ARows c A e i rs->z6 c.n rs=true
 | _,[],_=>rfl
 | i,r::rs,⟨⟨_,b⟩,d⟩=>by simpa [z6] using ⟨ACells.ids a A (i*e) r b,ARows.ids a A e (i+1) rs d⟩
theorem ACells.ids {c:Ctx} (b:∀i,c.live i->i<c.n) (A:Option Addr):∀(k:Nat) (aZ:List AV),ACells c A k aZ->zP c.n aZ=true
 | _,[],_=>rfl
 | k,a::aZ,⟨⟨_,_,_,_,e⟩,d⟩=>by simpa [zP] using ⟨AR.ids b a _ e,ACells.ids b A (k+1) aZ d⟩
end
theorem MapRel.ids {c:Ctx} (d:∀i,c.live i->i<c.n):∀(l:List (AV × AV)) (es:List MapEntry),MapRel c l es->(l.all λx=>x.1.lt c.n && x.2.lt c.n)=true
 | [],_,_=>rfl
 | (a,b)::r,_,⟨e,q,j,f,h,g⟩=>by
   simp only[List.all_cons,Bool.and_eq_true]
   exact ⟨⟨AR.ids d a _ f,AR.ids d b _ h⟩,MapRel.ids d r q g⟩
theorem KH:∀(n:Nat) (xs:List (List AV)),zP n xs.flatten=true->z6 n xs=true
 | _,[],_=>rfl
 | n,r::rs,h=>by
   have key:∀(a b:List AV),zP n (a++b)=true->zP n a=true/\zP n b=true:=λa=>by
    induction a with
    | nil=>intro b h;exact ⟨rfl,h⟩
    | cons x a c=>intro b h;simp only[List.cons_append,zP,Bool.and_eq_true] at h ⊢;exact ⟨⟨h.1,(c b h.2).1⟩,(c b h.2).2⟩
   rw[List.flatten_cons] at h
   have:=key r rs.flatten h
   simp only[z6,Bool.and_eq_true]
   exact ⟨this.1,KH n rs this.2⟩
section
variable {B:Nat} {w w':World} {g g':Gh} {h h' L:List Ob} {P:Program} {N:Nat} {T:Env} {Q:jl} {c:Code}
theorem y6:∀i,(ctx w g h).live i->i<(ctx w g h).n:=λi ⟨o,a,_⟩=>jY a
theorem HOk.ids (k:HOk B w g h):∀o∈h,Kj h.length o=true:=λo j=>by
 obtain ⟨i,c⟩:=List.mem_iff_getElem?.1 j
 have:=k.ok i o c
 cases o with
 | box ty m=>obtain ⟨_,vs,_,a⟩:=this;exact ARs.ids y6 m _ a
 | row ty e xs st=>obtain ⟨_,_,cells,_,a⟩:=this;exact KH _ _ (ARs.ids y6 _ _ a)
 | mapo l=>
   obtain ⟨_,es,q,l',_,d,a,_⟩:=this
   have b:=MapRel.ids y6 l' _ a
   have:(l.all λx=>x.1.lt h.length && x.2.lt h.length)=true:=by
    rw[List.all_eq_true] at b⊢
    exact λx f=>b x (d.mem_iff.2 f)
   exact this
 | raw _ _ _ _=>exact ARs.ids y6 _ _ this.2.2
 | gone=>rfl
 | res=>rfl
theorem Good.drop (k:Good B w g h w' g' (h'++L)) (j:h'.length=h.length) (b:∀o∈h',Kj h'.length o=true):Good B w g h w' g' h':=by
 have ok:=HOk.take k.ok b
 have e:=xW w' g' h' L
 refine ⟨ok,⟨λa u f=>e.rd a u (k.le.rd a u f),by simp[ctx,j],λi b=>?_,λi b=>k.le.β i b,λi b s c=>?_⟩,k.below,k.size⟩
 ·have d:=y6 i b
  have d:i<h.length:=d
  exact e.live i (by omega) (k.le.live i b)
 ·refine k.le.tok i b s ?_
  have d:i<h.length:=y6 i b
  rw[<-e.tok i (by omega)]
  exact c
theorem xua {n:Nat} {id:Nat} {o:Ob} (c:∀o∈h,Kj n o=true) (b:Kj n o=true):∀p∈h.set id o,Kj n p=true:=λp a=>by
 rcases List.mem_or_eq_of_mem_set a with a | a
 ·exact c p a
 ·exact a▸b
theorem Jg (k:HOk B w g h) (hB:B<=w.heap.size) {id:Nat} {ty e:Nat} {xs:List (List AV)} {st:Nat} (l:h[id]? =some (.row ty e xs st)):
  Good B w g h w g (h.set id .gone)/\∀u,AR (ctx w g h) (.tl id st) u->AR (ctx w g (h.set id .gone)) (.sl e xs) u:=by
 have E:w.grownBy w ((Ob.row ty e xs st).blk g id):=⟨rfl,rfl,rfl,Nat.le_refl _,λ_ _ _=>rfl⟩
 have y:=Le.turn (g':=g) (o':= .gone) l rfl E (λ_ _=>rfl) (λ_ _=>rfl) (λb z=>by cases z) (λ_=>⟨rfl,λs M=>by cases M⟩)
 refine ⟨⟨k.turn l E (λ_ _=>rfl) (λ_ _=>rfl) (λb z=>by cases z) y trivial,y,Below.refl _ _,hB⟩,λu H=>?_⟩
 have O:zo h (.tl id st)=some xs:=by simp[zo,l]
 have P:eOf h (.tl id st)=some e:=by simp[eOf,l]
 obtain ⟨A,q,I,K,Q,_⟩:=xu k _ H O
 have n:=Zw H l
 have t:=Q e P
 refine ⟨A,q,I,K,?_⟩
 have key:∀(r:List AV) (i:Nat) (k0:Nat),(∀j a,r[j]? =some a->∃f u,A=some f/\w.cell? (f.add (i*e+(k0+j)))=some u/\AR (ctx w g h) a u)->ACells (ctx w g (h.set id .gone)) A (i*e+k0) r:=by
  intro r i
  induction r with
  | nil=>intro _ _;trivial
  | cons x r C=>
    intro k0 D
    obtain ⟨f,N,F,L,z3⟩:=D 0 x rfl
    refine ⟨⟨f,N,F,⟨λ⟨j,p,m,d⟩=>?_,by simpa using L⟩,AR.le y _ _ z3⟩,?_⟩
    ·
     have o:(g.cur id).ownBlock=some f.block:=by
      have:g.cur id=u:=n.symm
      rw[this,I,F];rfl
     by_cases c:j=id
     ·subst c
      rw[List.getElem?_set_self (jY l)] at m
      injection m with m
      subst m
      cases d
     ·rw[List.getElem?_set_ne (λe=>c e.symm)] at m
      have v:(f.add (i*e+k0)).block=f.block:=by unfold Addr.add;split<;>rfl
      rw[v] at d
      exact k.apart j id p _ _ c m l d o
    ·have:=C (k0+1) λj a c=>by
      have:=D (j+1) a c
      rw[show k0+(j+1)=k0+1+j by omega] at this
      exact this
     rw[show i*e+k0+1=i*e+(k0+1) by omega]
     exact this
 have rows:∀(ys:List (List AV)) (i:Nat),(∀j r,ys[j]? =some r->xs[i+j]? =some r)->ARows (ctx w g (h.set id .gone)) A e i ys:=by
  intro ys
  induction ys with
  | nil=>intro _ _;trivial
  | cons r ys C=>
    intro i G
    have h0:=G 0 r rfl
    simp only[Nat.add_zero] at h0
    refine ⟨⟨t.len r (List.mem_of_getElem? h0),?_⟩,C (i+1) λj J c=>by
     have:=G (j+1) J c
     rw[show i+(j+1)=i+1+j by omega] at this
     exact this⟩
    have:=key r i 0 λj a c=>by
     rw[Nat.zero_add]
     exact t.cell i j r a h0 c
    simpa using this
 exact rows xs 0 λj r c=>by simpa using c
theorem q2a {B:Bs} {φ:Nat->Ob} {g:Gh} {h':List Ob} {c:Env} {g':Gh} {a:Act} (d:ResK h h') (k1:Good B.b w g (fill φ h) w g' (fill φ h')) (i:kN (ctx w g' (fill φ h')) c a) (e:a.defers=B.ds) (f:a.tmps.size=N):Aft N B φ w g h c h' a w:=
 ⟨g',d,⟨k1.ok,k1.size,i,e,f⟩,k1⟩
theorem YQ {B:Bs} (d:Nat) {id st:Nat} {ty e:Nat} {xs:List (List AV)} (j:T d= .tl id st) (b:h[id]? =some (.row ty e xs st)) (k:AWp P N B c Q (upd T d (.sl e xs)) (h.set id .gone)):AWp P N B c Q T h:=
 vFa k λφ l w g a r=>by
  obtain ⟨k1,k2⟩:=Jg r.ok r.hB (zK b rfl)
  rw[<-qS rfl] at k1 k2
  refine q2a (zJ b rfl) k1 (λi=>?_) r.d r.n
  unfold upd
  split
  ·rename_i f
   subst f
   have:=r.t i
   rw[j] at this
   exact k2 _ this
  ·exact AR.le k1.le _ _ (r.t i)
theorem qga {B:Bs} (d:Nat) {x:AV} (o:T d=x) (k:zo h x=some []) (k1:∀m,AWp P N B c Q (upd T d (.v (.slice none 0 m))) h) (k2:AWp P N B c Q (upd T d .em) h):AWp P N B c Q T h:=λφ b w g a r=>by
 have e:=r.t d
 rw[o] at e
 obtain ⟨A,m,f,_⟩:=xu r.ok _ e (ja _ k)
 have put:∀y,AR (ctx w g (fill φ h)) y (a.tmps.getD d undef)->Rel N B w g (fill φ h) a (upd T d y):=λy p=>⟨r.ok,r.hB,λi=>by
  unfold upd
  split
  ·rename_i j;subst j;exact p
  ·exact r.t i,r.d,r.n⟩
 cases A with
 | none=>exact k1 m φ b w g a (put _ f)
 | some l=>exact k2 φ b w g a (put _ ⟨l,m,f⟩)
theorem xva (k:HOk B w g h) (hB:B<=w.heap.size):Good B w g h w g (h++[.res]):=by
 have c:=Le.more (g:=g) (g':=g) (h:=h) (o:= .res) (Below.refl _ w) (λ_ _=>rfl) (λ_ _=>rfl) (λb a=>by cases a)
 exact ⟨k.more (Below.refl _ w) (λ_ _=>rfl) (λ_ _=>rfl) (λb a=>by cases a) c trivial,c,Below.refl _ _,hB⟩
theorem QG (hB:B<=w.heap.size):∀(n:Nat) {h:List Ob},HOk B w g h->Good B w g h w g (h++List.replicate n .res)
 | 0,h,k=>by simpa using Good.refl k hB
 | n+1,h,k=>by
   have k1:=xva k hB
   have k2:=QG hB n k1.ok
   rw[List.append_assoc] at k2
   exact k1.trans k2
def KeepLt (h a:List Ob):Prop:=∀φ:Nat->Ob,Upto φ h.length->(∀o∈fill φ h,Kj h.length o=true)->∀o∈fill φ a,Kj a.length o=true
theorem KeepLt.refl:KeepLt h h:=λ_ _ k=>k
theorem KeepLt.set {a:List Ob} (k:KeepLt h a) {i:Nat} {o:Ob} (b:o.isRes=false) (d:Kj a.length o=true):KeepLt h (a.set i o):=λφ c q=>by
 rw[qS b,List.length_set]
 exact xua (k φ c q) d
def q3a (P:Program) (rs:List ResultVar) (h:List Ob) (R:AV->List Ob->Prop):jl
 | .normal,T,h' | .ret,T,h'=>∃r,JC P T h' rs=some r/\(R r h'∨∃a L,h'=a++L/\a.length=h.length/\r.lt a.length=true/\KeepLt h a/\R r a)
 | _,_,_=>False
theorem vm {f:FuncId} {fn:Func} {c:Code} {aZ:List AV} {R:AV->List Ob->Prop} {rs:List ResultVar} {N:Nat} (F:P.funcs[f]? =some fn) (G:fn.body=some c) (D:fn.ntmps=N) (u:fn.results.toList=rs) (H:aZ.length<=N) (j:J7 P f=true) (hex:∃r h',R r h'/\ResK h h')
  (k:∀B,AWp P N B c (q3a P rs h R) (nth aZ) h):ACalls P f aZ h R:=⟨j,hex,λφ s B w g vs A hB d=>by
 subst D u
 have:=Kl (R:=λr h'=>R r h'∨∃a L,h'=a++L/\a.length=h.length/\r.lt a.length=true/\KeepLt h a/\R r a) F G H j (let ⟨r,h',l,p⟩:=hex;⟨r,h',.inl l,p⟩)
  (λB=>(k B).mono λe T h' q=>by cases e<;>exact q)
 refine (this.2.2 φ s B w g vs A hB d).mono λe w' ⟨v,r,h',g',z,m,y,t,o⟩=>?_
 rcases m with m | ⟨a,L,rfl,l,p,E,C⟩
 ·exact ⟨v,r,h',g',z,m,y,t,o⟩
 ·have n:Upto φ a.length:=s.mono (by omega)
  rw[q8 n] at t o
  refine ⟨v,r,a,g',z,C,λi x=>?_,t.drop (by rw[qc,qc,l]) ?_,AR.less (xW w' g' (fill φ a) L) _ _ (by rw[qc];exact p) o⟩
  ·have:=y i x
   rw[List.getElem?_append_left (by rw[l];exact (List.getElem?_eq_some_iff.1 x).1)] at this
   exact this
  ·rw[qc]
   have b:=A.ids
   rw[qc] at b
   exact E φ s b⟩
def qX (P:Program) (f:FuncId) (aZ:List AV) (r:AV):Prop:=∀h,ACalls P f aZ h λa h'=>a=r/\h'=h
theorem ze {rs:List ResultVar} {r:AV} {T:Env} {L:List Ob} (a:JC P T (h++L) rs=some r) (c:r.lt h.length=true):q3a P rs h (λb h'=>b=r/\h'=h) .ret T (h++L):=
 ⟨r,a,.inr ⟨h,L,rfl,rfl,c,.refl,rfl,rfl⟩⟩
theorem zc {rs:List ResultVar} {r:AV} {T:Env} (a:JC P T h rs=some r):q3a P rs h (λb h'=>b=r/\h'=h) .ret T h:=
 ⟨r,a,.inl ⟨rfl,rfl⟩⟩
end
end Go.Proofs.YtfmldcilgbbimaaGreat.Ax
