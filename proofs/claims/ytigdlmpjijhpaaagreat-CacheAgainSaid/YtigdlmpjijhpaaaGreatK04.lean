import Derived.Test.YtigdlmpjijhpaaaGreatKA
import Derived.Test.YtigdlmpjijhpaaaGreatK03
set_option linter.all false
namespace Go.Proofs.YtigdlmpjijhpaaaGreat.Ax
open Go Go.RowKit
mutual
theorem AR.ids{c:Ctx}(b:∀i,c.live i->i<c.n):∀(a:AV) (u:Value),AR c a u->a.lt c.n=true
 | .v _,_,_=>rfl
 | .sl e xs,_,⟨A,_,_,_,h⟩=>by simpa [AV.lt] using ARows.ids b A e 0 xs h
 | .tl id st,_,h=>by simpa [AV.lt] using b id h.2.1
 | .em,_,_=>rfl
 | .vw a e i n,_,⟨_,_,_,_,_,h,_⟩=>by simpa [AV.lt] using AR.ids b a _ h
 | .ptr id off,_,h=>by simpa [AV.lt] using b id h.1
 | .ep a e i k,_,⟨_,_,_,h,_⟩=>by simpa [AV.lt] using AR.ids b a _ h
 | .mp id,_,h=>by simpa [AV.lt] using b id h.1
 | .ag cs,_,⟨_,_,h⟩=>by simpa [AV.lt] using ARs.ids b cs _ h
 | .tup cs,_,⟨_,_,h⟩=>by simpa [AV.lt] using ARs.ids b cs _ h
 | .fn f d cs,_,⟨_,_,_,h,k⟩=>by simpa [AV.lt] using ⟨ARs.ids b d _ h,ARs.ids b cs _ k⟩
 | .bad,_,_=>rfl
theorem ARs.ids{c:Ctx}(b:∀i,c.live i->i<c.n):∀(aZ:List AV) (vs:List Value),ARs c aZ vs->qy c.n aZ=true
 | [],_,_=>rfl
 | a::aZ,_,⟨_,r,_,e,d⟩=>by simpa [qy] using ⟨AR.ids b a _ e,ARs.ids b aZ _ d⟩
theorem ARows.ids{c:Ctx}(a:∀i,c.live i->i<c.n)(A:Option Addr)(e:Nat):∀(i:Nat) (rs:List (List AV)),ARows c A e i rs->qM c.n rs=true
 | _,[],_=>rfl
 | i,r::rs,⟨⟨_,b⟩,d⟩=>by simpa [qM] using ⟨ACells.ids a A (i*e) r b,ARows.ids a A e (i+1) rs d⟩
theorem ACells.ids{c:Ctx}(b:∀i,c.live i->i<c.n)(A:Option Addr):∀(k:Nat) (aZ:List AV),ACells c A k aZ->qy c.n aZ=true
 | _,[],_=>rfl
 | k,a::aZ,⟨⟨_,_,_,_,e⟩,d⟩=>by simpa [qy] using ⟨AR.ids b a _ e,ACells.ids b A (k+1) aZ d⟩
end
theorem MapRel.ids{c:Ctx}(d:∀i,c.live i->i<c.n):∀(l:List (AV × AV)) (es:List MapEntry),MapRel c l es->(l.all λx=>x.1.lt c.n && x.2.lt c.n)=true
 | [],_,_=>rfl
 | (a,b)::r,_,⟨e,q,j,h,g,f⟩=>by
   simp only[List.all_cons,zq]
   exact⟨⟨AR.ids d a _ h,AR.ids d b _ g⟩,MapRel.ids d r q f⟩
theorem qwa:∀(n:Nat) (xs:List (List AV)),qy n xs.flatten=true->qM n xs=true
 | _,[],_=>rfl
 | n,r::rs,h=>by
   have key:∀(a b:List AV),qy n (a++b)=true->qy n a=true/\qy n b=true:=λa=>by
    induction a with
    | nil=>intro b h;exact⟨rfl,h⟩
    | cons x a c=>intro b h;simp only[List.cons_append,qy,zq] at h ⊢;exact⟨⟨h.1,(c b h.2).1⟩,(c b h.2).2⟩
   rw[List.flatten_cons] at h
   have:=key r rs.flatten h
   simp only[qM,zq]
   exact⟨this.1,qwa n rs this.2⟩
section
variable {B:Nat} {w w':World} {g g':Gh} {h h' L:List Ob} {P:Program} {N:Nat} {T:Env} {Q:xV} {c:Code}
theorem Xs:∀i,(ctx w g h).live i->i<(ctx w g h).n:=λi ⟨o,a,_⟩=>vS a
theorem HOk.ids(k:HOk B w g h):∀o∈h,VB h.length o=true:=λo f=>by
 obtain⟨i,hi⟩:=List.mem_iff_getElem?.1 f
 have:=k.ok i o hi
 cases o with
 | box ty cs=>obtain⟨_,vs,_,a⟩:=this;exact ARs.ids Xs cs _ a
 | row ty e xs st=>obtain⟨_,_,cells,_,a⟩:=this;exact qwa _ _ (ARs.ids Xs _ _ a)
 | mapo l=>
   obtain⟨_,es,q,l',_,d,a,_⟩:=this
   have b:=MapRel.ids Xs l' _ a
   have:(l.all λx=>x.1.lt h.length && x.2.lt h.length)=true:=by
    rw[qb] at b⊢
    exact λx c=>b x (d.mem_iff.2 c)
   exact this
 | raw _ _ _ _=>exact ARs.ids Xs _ _ this.2.2
 | gone=>rfl
 | res=>rfl
theorem Good.drop(k:Good B w g h w' g' (h'++L))(e:h'.length=h.length)(hi:∀o∈h',VB h'.length o=true):Good B w g h w' g' h':=by
 have ok:=HOk.take k.ok hi
 have d:=kU w' g' h' L
 refine⟨ok,⟨λa u f=>d.rd a u (k.le.rd a u f),by simp[ctx,e],λi hi=>?_,λi hi=>k.le.β i hi,λi hi s b=>?_⟩,k.below,k.size⟩
 ·have c:=Xs i hi
  have c:i<h.length:=c
  exact d.live i (by omega) (k.le.live i hi)
 ·refine k.le.tok i hi s ?_
  have c:i<h.length:=Xs i hi
  rw[<-d.tok i (by omega)]
  exact b
theorem xLa{n:Nat}{id:Nat}{o:Ob}(b:∀o∈h,VB n o=true)(c:VB n o=true):∀p∈h.set id o,VB n p=true:=λp a=>by
 rcases List.mem_or_eq_of_mem_set a with a|a
 ·exact b p a
 ·exact a▸c
theorem Wt(k:HOk B w g h)(hB:B<=w.heap.size){id:Nat}{ty e:Nat}{xs:List (List AV)}{st:Nat}(f:h[id]? =some (.row ty e xs st)):
  Good B w g h w g (h.set id .gone)/\∀u,AR (ctx w g h) (.tl id st) u->AR (ctx w g (h.set id .gone)) (.sl e xs) u:=by
 have G:w.grownBy w ((Ob.row ty e xs st).blk g id):=⟨rfl,rfl,rfl,zo _,λ_ _ _=>rfl⟩
 have C:=Le.turn (g':=g) (o':= .gone) f rfl G (λ_ _=>rfl) (λ_ _=>rfl) (λb v=>by cases v) (λ_=>⟨rfl,λs J=>by cases J⟩)
 refine⟨⟨k.turn f G (λ_ _=>rfl) (λ_ _=>rfl) (λb v=>by cases v) C trivial,C,Below.refl _ _,hB⟩,λu E=>?_⟩
 have L:qa h (.tl id st)=some xs:=by simp[qa,f]
 have M:eOf h (.tl id st)=some e:=by simp[eOf,f]
 obtain⟨A,q,D,O,P,_⟩:=wB k _ E L
 have t:=Qj E f
 have n:=P e M
 refine⟨A,q,D,O,?_⟩
 have key:∀(r:List AV) (i:Nat) (k0:Nat),(∀j a,r[j]? =some a->∃l u,A=some l/\w.cell? (l.add (i*e+(k0+j)))=some u/\AR (ctx w g h) a u)->ACells (ctx w g (h.set id .gone)) A (i*e+k0) r:=by
  intro r i
  induction r with
  | nil=>intro _ _;trivial
  | cons x r y=>
    intro k0 H
    obtain⟨l,N,F,Q,z3⟩:=H 0 x rfl
    refine⟨⟨l,N,F,⟨λ⟨j,p,m,d⟩=>?_,by simpa using Q⟩,AR.le C _ _ z3⟩,?_⟩
    ·
     have o:(g.cur id).ownBlock=some l.block:=by
      have:g.cur id=u:=t.symm
      rw[this,D,F];rfl
     by_cases c:j=id
     ·subst c
      rw[zp (vS f)] at m
      injection m with m
      subst m
      cases d
     ·rw[zc (λe=>c e.symm)] at m
      have z:(l.add (i*e+k0)).block=l.block:=by unfold Addr.add;split<;>rfl
      rw[z] at d
      exact k.apart j id p _ _ c m f d o
    ·have:=y (k0+1) λj a c=>by
      have:=H (j+1) a c
      rw[show k0+(j+1)=k0+1+j by omega] at this
      exact this
     rw[show i*e+k0+1=i*e+(k0+1) by omega]
     exact this
 have rows:∀(ys:List (List AV)) (i:Nat),(∀j r,ys[j]? =some r->xs[i+j]? =some r)->ARows (ctx w g (h.set id .gone)) A e i ys:=by
  intro ys
  induction ys with
  | nil=>intro _ _;trivial
  | cons r ys y=>
    intro i I
    have h0:=I 0 r rfl
    simp only[Nat.add_zero] at h0
    refine⟨⟨n.len r (qq h0),?_⟩,y (i+1) λj K c=>by
     have:=I (j+1) K c
     rw[show i+(j+1)=i+1+j by omega] at this
     exact this⟩
    have:=key r i 0 λj a c=>by
     rw[Nat.zero_add]
     exact n.cell i j r a h0 c
    simpa using this
 exact rows xs 0 λj r c=>by simpa using c
theorem ZCa{B:Bs}{φ:Nat->Ob}{g:Gh}{h':List Ob}{c:Env}{g':Gh}{a:Act}(e:ResK h h')(k1:Good B.b w g (fill φ h) w g' (fill φ h'))(i:wU (ctx w g' (fill φ h')) c a)(d:a.defers=B.ds)(f:a.tmps.size=N):Aft N B φ w g h c h' a w:=
 ⟨g',e,⟨k1.ok,k1.size,i,d,f⟩,k1⟩
theorem Yx{B:Bs}(d:Nat){id st:Nat}{ty e:Nat}{xs:List (List AV)}(f:T d= .tl id st)(b:h[id]? =some (.row ty e xs st))(k:AWp P N B c Q (upd T d (.sl e xs)) (h.set id .gone)):AWp P N B c Q T h:=
 Via k λφ j w g a r=>by
  obtain⟨k1,k2⟩:=Wt r.ok r.hB (qL b rfl)
  rw[<-jj rfl] at k1 k2
  refine ZCa (qi b rfl) k1 (λi=>?_) r.d r.n
  unfold upd
  split
  ·rename_i hi
   subst hi
   have:=r.t i
   rw[f] at this
   exact k2 _ this
  ·exact AR.le k1.le _ _ (r.t i)
theorem Zo{B:Bs}(d:Nat){x:AV}(k:T d=x)(o:qa h x=some [])(k1:∀m,AWp P N B c Q (upd T d (.v (.slice none 0 m))) h)(k2:AWp P N B c Q (upd T d .em) h):AWp P N B c Q T h:=λφ f w g a r=>by
 have b:=r.t d
 rw[k] at b
 obtain⟨A,m,e,_⟩:=wB r.ok _ b (kr _ o)
 have put:∀y,AR (ctx w g (fill φ h)) y (a.tmps.getD d undef)->Rel N B w g (fill φ h) a (upd T d y):=λy l=>⟨r.ok,r.hB,λi=>by
  unfold upd
  split
  ·rename_i hi;subst hi;exact l
  ·exact r.t i,r.d,r.n⟩
 cases A with
 | none=>exact k1 m φ f w g a (put _ e)
 | some j=>exact k2 φ f w g a (put _ ⟨j,m,e⟩)
theorem Jxa(k:HOk B w g h)(hB:B<=w.heap.size):Good B w g h w g (h++[.res]):=by
 have c:=Le.more (g:=g) (g':=g) (h:=h) (o:= .res) (Below.refl _ w) (λ_ _=>rfl) (λ_ _=>rfl) (λb a=>by cases a)
 exact⟨k.more (Below.refl _ w) (λ_ _=>rfl) (λ_ _=>rfl) (λb a=>by cases a) c trivial,c,Below.refl _ _,hB⟩
theorem VH(hB:B<=w.heap.size):∀(n:Nat) {h:List Ob},HOk B w g h->Good B w g h w g (h++List.replicate n .res)
 | 0,h,k=>by simpa using Good.refl k hB
 | n+1,h,k=>by
   have k1:=Jxa k hB
   have k2:=VH hB n k1.ok
   rw[zt] at k2
   exact k1.trans k2
def KeepLt(h a:List Ob):Prop:=∀φ:Nat->Ob,Upto φ h.length->(∀o∈fill φ h,VB h.length o=true)->∀o∈fill φ a,VB a.length o=true
theorem KeepLt.refl:KeepLt h h:=λ_ _ k=>k
theorem KeepLt.set{a:List Ob}(k:KeepLt h a){i:Nat}{o:Ob}(c:o.isRes=false)(d:VB a.length o=true):KeepLt h (a.set i o):=λφ b q=>by
 rw[jj c,zN]
 exact xLa (k φ b q) d
def vIa(P:Program)(rs:List ResultVar)(h:List Ob)(R:AV->List Ob->Prop):xV
 | .normal,T,h' | .ret,T,h'=>∃r,VG P T h' rs=some r/\(R r h'∨∃a L,h'=a++L/\a.length=h.length/\r.lt a.length=true/\KeepLt h a/\R r a)
 | _,_,_=>False
theorem jN{f:FuncId}{fn:Func}{c:Code}{aZ:List AV}{R:AV->List Ob->Prop}{rs:List ResultVar}{N:Nat}(F:P.funcs[f]? =some fn)(A:fn.body=some c)(D:fn.ntmps=N)(t:fn.results.toList=rs)(E:aZ.length<=N)(j:Ys P f=true)(hex:∃r h',R r h'/\ResK h h')
  (k:∀B,AWp P N B c (vIa P rs h R) (nth aZ) h):ACalls P f aZ h R:=⟨j,hex,λφ n B w g vs y hB d=>by
 subst D t
 have:=qaa (R:=λr h'=>R r h'∨∃a L,h'=a++L/\a.length=h.length/\r.lt a.length=true/\KeepLt h a/\R r a) F A E j (let ⟨r,h',l,u⟩:=hex;⟨r,h',.inl l,u⟩)
  (λB=>(k B).mono λe T h' q=>by cases e<;>exact q)
 refine(this.2.2 φ n B w g vs y hB d).mono λe w' ⟨v,r,h',g',x,p,z,s,m⟩=>?_
 rcases p with p|⟨a,L,rfl,l,u,C,G⟩
 ·exact⟨v,r,h',g',x,p,z,s,m⟩
 ·have o:Upto φ a.length:=n.mono (by omega)
  rw[jW o] at s m
  refine⟨v,r,a,g',x,G,λi hi=>?_,s.drop (by rw[jo,jo,l]) ?_,AR.less (kU w' g' (fill φ a) L) _ _ (by rw[jo];exact u) m⟩
  ·have:=z i hi
   rw[zO (by rw[l];exact(zd.1 hi).1)] at this
   exact this
  ·rw[jo]
   have b:=y.ids
   rw[jo] at b
   exact C φ n b⟩
def xA(P:Program)(f:FuncId)(aZ:List AV)(r:AV):Prop:=∀h,ACalls P f aZ h λa h'=>a=r/\h'=h
theorem Xt{rs:List ResultVar}{r:AV}{T:Env}{L:List Ob}(a:VG P T (h++L) rs=some r)(c:r.lt h.length=true):vIa P rs h (λb h'=>b=r/\h'=h) .ret T (h++L):=
 ⟨r,a,.inr ⟨h,L,rfl,rfl,c,.refl,rfl,rfl⟩⟩
theorem Kf{rs:List ResultVar}{r:AV}{T:Env}(a:VG P T h rs=some r):vIa P rs h (λb h'=>b=r/\h'=h) .ret T h:=
 ⟨r,a,.inl ⟨rfl,rfl⟩⟩
theorem zn{rs:List ResultVar}{r:AV}{T:Env}{H:List Ob}(b:VG P T H rs=some r)(a:H=h∨∃L,H=h++L/\r.lt h.length=true:=by first|exact .inl rfl|exact .inr ⟨_,rfl,rfl⟩):vIa P rs h (λc h'=>c=r/\h'=h) .ret T H:=by
 rcases a with e|⟨L,e,a⟩
 ·subst e
  exact Kf b
 ·subst e
  exact Xt b a
end
