/-
  Joined.
-/
import Derived.Test.YtfmldcilgbbimaaGreatK03
set_option linter.unusedSimpArgs false
set_option linter.unusedVariables false
namespace Go.Proofs.YtfmldcilgbbimaaGreat.Ax
open Go Go.RowKit
mutual
theorem AR.ids {c:Ctx} (b:∀i,c.live i->i<c.n):∀(a:AV) (u:Value),AR c a u->a.lt c.n=true
 | .v _,_,_=>rfl
 | .sl e xs,_,⟨A,_,_,_,h⟩=>by simpa [AV.lt] using ARows.ids b A e 0 xs h
 | .tl id st,_,h=>by simpa [AV.lt] using b id h.2.1
 | .em,_,_=>rfl
 | .vw a e i n,_,⟨_,_,_,_,_,h,_⟩=>by simpa [AV.lt] using AR.ids b a _ h
 | .ptr id off,_,h=>by simpa [AV.lt] using b id h.1
 | .ep a e i k,_,⟨_,_,_,h,_⟩=>by simpa [AV.lt] using AR.ids b a _ h
 | .mp id,_,h=>by simpa [AV.lt] using b id h.1
 | .ag cs,_,⟨_,_,h⟩=>by simpa [AV.lt] using ARs.ids b cs _ h
 | .tup cs,_,⟨_,_,h⟩=>by simpa [AV.lt] using ARs.ids b cs _ h
 | .fn f d cs,_,⟨_,_,_,h,k⟩=>by simpa [AV.lt] using ⟨ARs.ids b d _ h,ARs.ids b cs _ k⟩
 | .bad,_,_=>rfl
theorem ARs.ids {c:Ctx} (b:∀i,c.live i->i<c.n):∀(aZ:List AV) (vs:List Value),ARs c aZ vs->zG c.n aZ=true
 | [],_,_=>rfl
 | a::aZ,_,⟨_,r,_,d,e⟩=>by simpa [zG] using ⟨AR.ids b a _ d,ARs.ids b aZ _ e⟩
theorem ARows.ids {c:Ctx} (a:∀i,c.live i->i<c.n) (A:Option Addr) (e:Nat):∀(i:Nat) (rs:List (List AV)),ARows c A e i rs->zU c.n rs=true
 | _,[],_=>rfl
 | i,r::rs,⟨⟨_,b⟩,d⟩=>by simpa [zU] using ⟨ACells.ids a A (i*e) r b,ARows.ids a A e (i+1) rs d⟩
theorem ACells.ids {c:Ctx} (b:∀i,c.live i->i<c.n) (A:Option Addr):∀(k:Nat) (aZ:List AV),ACells c A k aZ->zG c.n aZ=true
 | _,[],_=>rfl
 | k,a::aZ,⟨⟨_,_,_,_,e⟩,d⟩=>by simpa [zG] using ⟨AR.ids b a _ e,ACells.ids b A (k+1) aZ d⟩
end
theorem MapRel.ids {c:Ctx} (d:∀i,c.live i->i<c.n):∀(l:List (AV × AV)) (es:List MapEntry),MapRel c l es->(l.all λx=>x.1.lt c.n && x.2.lt c.n)=true
 | [],_,_=>rfl
 | (a,b)::r,_,⟨e,q,j,f,h,g⟩=>by
   simp only[List.all_cons,Bool.and_eq_true]
   exact ⟨⟨AR.ids d a _ f,AR.ids d b _ h⟩,MapRel.ids d r q g⟩
theorem Yi:∀(n:Nat) (xs:List (List AV)),zG n xs.flatten=true->zU n xs=true
 | _,[],_=>rfl
 | n,r::rs,h=>by
   have key:∀(a b:List AV),zG n (a++b)=true->zG n a=true/\zG n b=true:=λa=>by
    induction a with
    | nil=>intro b h;exact ⟨rfl,h⟩
    | cons x a c=>intro b h;simp only[List.cons_append,zG,Bool.and_eq_true] at h ⊢;exact ⟨⟨h.1,(c b h.2).1⟩,(c b h.2).2⟩
   rw[List.flatten_cons] at h
   have:=key r rs.flatten h
   simp only[zU,Bool.and_eq_true]
   exact ⟨this.1,Yi n rs this.2⟩
section
variable {B:Nat} {w w':World} {g g':Gh} {h h' L:List Ob} {P:Program} {N:Nat} {T:Env} {Q:jv} {c:Code}
theorem QH:∀i,(ctx w g h).live i->i<(ctx w g h).n:=λi ⟨o,a,_⟩=>xO a
theorem HOk.ids (k:HOk B w g h):∀o∈h,Xz h.length o=true:=λo c=>by
 obtain ⟨i,f⟩:=List.mem_iff_getElem?.1 c
 have:=k.ok i o f
 cases o with
 | box ty cs=>obtain ⟨_,vs,_,a⟩:=this;exact ARs.ids QH cs _ a
 | row ty e xs st=>obtain ⟨_,_,cells,_,a⟩:=this;exact Yi _ _ (ARs.ids QH _ _ a)
 | mapo l=>
   obtain ⟨_,es,q,l',_,j,a,_⟩:=this
   have b:=MapRel.ids QH l' _ a
   have:(l.all λx=>x.1.lt h.length && x.2.lt h.length)=true:=by
    rw[List.all_eq_true] at b⊢
    exact λx d=>b x (j.mem_iff.2 d)
   exact this
 | raw _ _ _ _=>exact ARs.ids QH _ _ this.2.2
 | gone=>rfl
 | res=>rfl
theorem Good.drop (k:Good B w g h w' g' (h'++L)) (f:h'.length=h.length) (b:∀o∈h',Xz h'.length o=true):Good B w g h w' g' h':=by
 have ok:=HOk.take k.ok b
 have e:=xx w' g' h' L
 refine ⟨ok,⟨λa u j=>e.rd a u (k.le.rd a u j),by simp[ctx,f],λi b=>?_,λi b=>k.le.β i b,λi b s c=>?_⟩,k.below,k.size⟩
 ·have d:=QH i b
  have d:i<h.length:=d
  exact e.live i (by omega) (k.le.live i b)
 ·refine k.le.tok i b s ?_
  have d:i<h.length:=QH i b
  rw[<-e.tok i (by omega)]
  exact c
theorem qpa {n:Nat} {id:Nat} {o:Ob} (b:∀o∈h,Xz n o=true) (c:Xz n o=true):∀p∈h.set id o,Xz n p=true:=λp a=>by
 rcases List.mem_or_eq_of_mem_set a with a | a
 ·exact b p a
 ·exact a▸c
theorem Kt (k:HOk B w g h) (hB:B<=w.heap.size) {id:Nat} {ty e:Nat} {xs:List (List AV)} {st:Nat} (d:h[id]? =some (.row ty e xs st)):
  Good B w g h w g (h.set id .gone)/\∀u,AR (ctx w g h) (.tl id st) u->AR (ctx w g (h.set id .gone)) (.sl e xs) u:=by
 have H:w.grownBy w ((Ob.row ty e xs st).blk g id):=⟨rfl,rfl,rfl,Nat.le_refl _,λ_ _ _=>rfl⟩
 have y:=Le.turn (g':=g) (o':= .gone) d rfl H (λ_ _=>rfl) (λ_ _=>rfl) (λb z=>by cases z) (λ_=>⟨rfl,λs L=>by cases L⟩)
 refine ⟨⟨k.turn d H (λ_ _=>rfl) (λ_ _=>rfl) (λb z=>by cases z) y trivial,y,Below.refl _ _,hB⟩,λu E=>?_⟩
 have O:zq h (.tl id st)=some xs:=by simp[zq,d]
 have M:eOf h (.tl id st)=some e:=by simp[eOf,d]
 obtain ⟨A,q,F,N,K,_⟩:=kD k _ E O
 have t:=ZU E d
 have n:=K e M
 refine ⟨A,q,F,N,?_⟩
 have key:∀(r:List AV) (i:Nat) (k0:Nat),(∀j a,r[j]? =some a->∃f u,A=some f/\w.cell? (f.add (i*e+(k0+j)))=some u/\AR (ctx w g h) a u)->ACells (ctx w g (h.set id .gone)) A (i*e+k0) r:=by
  intro r i
  induction r with
  | nil=>intro _ _;trivial
  | cons x r C=>
    intro k0 G
    obtain ⟨f,Q,D,P,z3⟩:=G 0 x rfl
    refine ⟨⟨f,Q,D,⟨λ⟨j,p,m,l⟩=>?_,by simpa using P⟩,AR.le y _ _ z3⟩,?_⟩
    ·
     have o:(g.cur id).ownBlock=some f.block:=by
      have:g.cur id=u:=t.symm
      rw[this,F,D];rfl
     by_cases c:j=id
     ·subst c
      rw[List.getElem?_set_self (xO d)] at m
      injection m with m
      subst m
      cases l
     ·rw[List.getElem?_set_ne (λe=>c e.symm)] at m
      have v:(f.add (i*e+k0)).block=f.block:=by unfold Addr.add;split<;>rfl
      rw[v] at l
      exact k.apart j id p _ _ c m d l o
    ·have:=C (k0+1) λj a c=>by
      have:=G (j+1) a c
      rw[show k0+(j+1)=k0+1+j by omega] at this
      exact this
     rw[show i*e+k0+1=i*e+(k0+1) by omega]
     exact this
 have rows:∀(ys:List (List AV)) (i:Nat),(∀j r,ys[j]? =some r->xs[i+j]? =some r)->ARows (ctx w g (h.set id .gone)) A e i ys:=by
  intro ys
  induction ys with
  | nil=>intro _ _;trivial
  | cons r ys C=>
    intro i I
    have h0:=I 0 r rfl
    simp only[Nat.add_zero] at h0
    refine ⟨⟨n.len r (List.mem_of_getElem? h0),?_⟩,C (i+1) λj J c=>by
     have:=I (j+1) J c
     rw[show i+(j+1)=i+1+j by omega] at this
     exact this⟩
    have:=key r i 0 λj a c=>by
     rw[Nat.zero_add]
     exact n.cell i j r a h0 c
    simpa using this
 exact rows xs 0 λj r c=>by simpa using c
theorem vFa {B:Bs} {φ:Nat->Ob} {g:Gh} {h':List Ob} {c:Env} {g':Gh} {a:Act} (f:ResK h h') (k1:Good B.b w g (fill φ h) w g' (fill φ h')) (d:kU (ctx w g' (fill φ h')) c a) (e:a.defers=B.ds) (i:a.tmps.size=N):Aft N B φ w g h c h' a w:=
 ⟨g',f,⟨k1.ok,k1.size,d,e,i⟩,k1⟩
theorem xca {B:Bs} (d:Nat) {id st:Nat} {ty e:Nat} {xs:List (List AV)} (f:T d= .tl id st) (b:h[id]? =some (.row ty e xs st)) (k:AWp P N B c Q (upd T d (.sl e xs)) (h.set id .gone)):AWp P N B c Q T h:=
 QKa k λφ l w g a r=>by
  obtain ⟨k1,k2⟩:=Kt r.ok r.hB (zN b rfl)
  rw[<-qn rfl] at k1 k2
  refine vFa (zC b rfl) k1 (λi=>?_) r.d r.n
  unfold upd
  split
  ·rename_i j
   subst j
   have:=r.t i
   rw[f] at this
   exact k2 _ this
  ·exact AR.le k1.le _ _ (r.t i)
theorem Zb {B:Bs} (d:Nat) {x:AV} (k:T d=x) (l:zq h x=some []) (k1:∀m,AWp P N B c Q (upd T d (.v (.slice none 0 m))) h) (k2:AWp P N B c Q (upd T d .em) h):AWp P N B c Q T h:=λφ f w g a r=>by
 have b:=r.t d
 rw[k] at b
 obtain ⟨A,m,e,_⟩:=kD r.ok _ b (jA _ l)
 have put:∀y,AR (ctx w g (fill φ h)) y (a.tmps.getD d undef)->Rel N B w g (fill φ h) a (upd T d y):=λy p=>⟨r.ok,r.hB,λi=>by
  unfold upd
  split
  ·rename_i j;subst j;exact p
  ·exact r.t i,r.d,r.n⟩
 cases A with
 | none=>exact k1 m φ f w g a (put _ e)
 | some o=>exact k2 φ f w g a (put _ ⟨o,m,e⟩)
theorem yna (k:HOk B w g h) (hB:B<=w.heap.size):Good B w g h w g (h++[.res]):=by
 have c:=Le.more (g:=g) (g':=g) (h:=h) (o:= .res) (Below.refl _ w) (λ_ _=>rfl) (λ_ _=>rfl) (λb a=>by cases a)
 exact ⟨k.more (Below.refl _ w) (λ_ _=>rfl) (λ_ _=>rfl) (λb a=>by cases a) c trivial,c,Below.refl _ _,hB⟩
theorem XF (hB:B<=w.heap.size):∀(n:Nat) {h:List Ob},HOk B w g h->Good B w g h w g (h++List.replicate n .res)
 | 0,h,k=>by simpa using Good.refl k hB
 | n+1,h,k=>by
   have k1:=yna k hB
   have k2:=XF hB n k1.ok
   rw[List.append_assoc] at k2
   exact k1.trans k2
def KeepLt (h a:List Ob):Prop:=∀φ:Nat->Ob,Upto φ h.length->(∀o∈fill φ h,Xz h.length o=true)->∀o∈fill φ a,Xz a.length o=true
theorem KeepLt.refl:KeepLt h h:=λ_ _ k=>k
theorem KeepLt.set {a:List Ob} (k:KeepLt h a) {i:Nat} {o:Ob} (d:o.isRes=false) (b:Xz a.length o=true):KeepLt h (a.set i o):=λφ c q=>by
 rw[qn d,List.length_set]
 exact qpa (k φ c q) b
def vGa (P:Program) (rs:List ResultVar) (h:List Ob) (R:AV->List Ob->Prop):jv
 | .normal,T,h' | .ret,T,h'=>∃r,KR P T h' rs=some r/\(R r h'∨∃a L,h'=a++L/\a.length=h.length/\r.lt a.length=true/\KeepLt h a/\R r a)
 | _,_,_=>False
theorem jm {f:FuncId} {fn:Func} {c:Code} {aZ:List AV} {R:AV->List Ob->Prop} {rs:List ResultVar} {N:Nat} (C:P.funcs[f]? =some fn) (F:fn.body=some c) (G:fn.ntmps=N) (t:fn.results.toList=rs) (H:aZ.length<=N) (j:Vm P f=true) (hex:∃r h',R r h'/\ResK h h')
  (k:∀B,AWp P N B c (vGa P rs h R) (nth aZ) h):ACalls P f aZ h R:=⟨j,hex,λφ n B w g vs A hB d=>by
 subst G t
 have:=WU (R:=λr h'=>R r h'∨∃a L,h'=a++L/\a.length=h.length/\r.lt a.length=true/\KeepLt h a/\R r a) C F H j (let ⟨r,h',l,o⟩:=hex;⟨r,h',.inl l,o⟩)
  (λB=>(k B).mono λe T h' q=>by cases e<;>exact q)
 refine (this.2.2 φ n B w g vs A hB d).mono λe w' ⟨v,r,h',g',z,p,x,m,u⟩=>?_
 rcases p with p | ⟨a,L,rfl,l,o,E,D⟩
 ·exact ⟨v,r,h',g',z,p,x,m,u⟩
 ·have s:Upto φ a.length:=n.mono (by omega)
  rw[qR s] at m u
  refine ⟨v,r,a,g',z,D,λi y=>?_,m.drop (by rw[qm,qm,l]) ?_,AR.less (xx w' g' (fill φ a) L) _ _ (by rw[qm];exact o) u⟩
  ·have:=x i y
   rw[List.getElem?_append_left (by rw[l];exact (List.getElem?_eq_some_iff.1 y).1)] at this
   exact this
  ·rw[qm]
   have b:=A.ids
   rw[qm] at b
   exact E φ n b⟩
def ji (P:Program) (f:FuncId) (aZ:List AV) (r:AV):Prop:=∀h,ACalls P f aZ h λa h'=>a=r/\h'=h
theorem ze {rs:List ResultVar} {r:AV} {T:Env} {L:List Ob} (c:KR P T (h++L) rs=some r) (b:r.lt h.length=true):vGa P rs h (λa h'=>a=r/\h'=h) .ret T (h++L):=
 ⟨r,c,.inr ⟨h,L,rfl,rfl,b,.refl,rfl,rfl⟩⟩
theorem zd {rs:List ResultVar} {r:AV} {T:Env} (b:KR P T h rs=some r):vGa P rs h (λa h'=>a=r/\h'=h) .ret T h:=
 ⟨r,b,.inl ⟨rfl,rfl⟩⟩
end
end Go.Proofs.YtfmldcilgbbimaaGreat.Ax
