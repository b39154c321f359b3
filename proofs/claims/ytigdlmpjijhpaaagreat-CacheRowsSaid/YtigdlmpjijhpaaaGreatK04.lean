import Derived.Test.YtigdlmpjijhpaaaGreatKA
import Derived.Test.YtigdlmpjijhpaaaGreatK03
set_option linter.all false
namespace Go.Proofs.YtigdlmpjijhpaaaGreat.Ax
open Go Go.RowKit
mutual
theorem AR.ids{c:Ctx}(b:∀i,c.live i->i<c.n):∀(a:AV) (u:Value),AR c a u->a.lt c.n=true
 | .v _,_,_=>rfl
 | .sl e xs,_,⟨A,_,_,_,h⟩=>by simpa [AV.lt] using ARows.ids b A e 0 xs h
 | .tl id st,_,h=>by simpa [AV.lt] using b id h.2.1
 | .em,_,_=>rfl
 | .vw a e i n,_,⟨_,_,_,_,_,h,_⟩=>by simpa [AV.lt] using AR.ids b a _ h
 | .ptr id off,_,h=>by simpa [AV.lt] using b id h.1
 | .ep a e i k,_,⟨_,_,_,h,_⟩=>by simpa [AV.lt] using AR.ids b a _ h
 | .mp id,_,h=>by simpa [AV.lt] using b id h.1
 | .ag cs,_,⟨_,_,h⟩=>by simpa [AV.lt] using ARs.ids b cs _ h
 | .tup cs,_,⟨_,_,h⟩=>by simpa [AV.lt] using ARs.ids b cs _ h
 | .fn f d cs,_,⟨_,_,_,h,k⟩=>by simpa [AV.lt] using ⟨ARs.ids b d _ h,ARs.ids b cs _ k⟩
 | .bad,_,_=>rfl
theorem ARs.ids{c:Ctx}(b:∀i,c.live i->i<c.n):∀(aZ:List AV) (vs:List Value),ARs c aZ vs->qy c.n aZ=true
 | [],_,_=>rfl
 | a::aZ,_,⟨_,r,_,d,e⟩=>by simpa [qy] using ⟨AR.ids b a _ d,ARs.ids b aZ _ e⟩
theorem ARows.ids{c:Ctx}(a:∀i,c.live i->i<c.n)(A:Option Addr)(e:Nat):∀(i:Nat) (rs:List (List AV)),ARows c A e i rs->qO c.n rs=true
 | _,[],_=>rfl
 | i,r::rs,⟨⟨_,b⟩,d⟩=>by simpa [qO] using ⟨ACells.ids a A (i*e) r b,ARows.ids a A e (i+1) rs d⟩
theorem ACells.ids{c:Ctx}(b:∀i,c.live i->i<c.n)(A:Option Addr):∀(k:Nat) (aZ:List AV),ACells c A k aZ->qy c.n aZ=true
 | _,[],_=>rfl
 | k,a::aZ,⟨⟨_,_,_,_,e⟩,d⟩=>by simpa [qy] using ⟨AR.ids b a _ e,ACells.ids b A (k+1) aZ d⟩
end
theorem MapRel.ids{c:Ctx}(d:∀i,c.live i->i<c.n):∀(l:List (AV × AV)) (es:List MapEntry),MapRel c l es->(l.all λx=>x.1.lt c.n && x.2.lt c.n)=true
 | [],_,_=>rfl
 | (a,b)::r,_,⟨e,q,j,f,g,h⟩=>by
   simp only[List.all_cons,zq]
   exact⟨⟨AR.ids d a _ f,AR.ids d b _ g⟩,MapRel.ids d r q h⟩
theorem qsa:∀(n:Nat) (xs:List (List AV)),qy n xs.flatten=true->qO n xs=true
 | _,[],_=>rfl
 | n,r::rs,h=>by
   have key:∀(a b:List AV),qy n (a++b)=true->qy n a=true/\qy n b=true:=λa=>by
    induction a with
    | nil=>intro b h;exact⟨rfl,h⟩
    | cons x a c=>intro b h;simp only[List.cons_append,qy,zq] at h ⊢;exact⟨⟨h.1,(c b h.2).1⟩,(c b h.2).2⟩
   rw[List.flatten_cons] at h
   have:=key r rs.flatten h
   simp only[qO,zq]
   exact⟨this.1,qsa n rs this.2⟩
section
variable {B:Nat} {w w':World} {g g':Gh} {h h' L:List Ob} {P:Program} {N:Nat} {T:Env} {Q:xR} {c:Code}
theorem Xp:∀i,(ctx w g h).live i->i<(ctx w g h).n:=λi ⟨o,a,_⟩=>vP a
theorem HOk.ids(k:HOk B w g h):∀o∈h,Vz h.length o=true:=λo f=>by
 obtain⟨i,hi⟩:=List.mem_iff_getElem?.1 f
 have:=k.ok i o hi
 cases o with
 | box ty cs=>obtain⟨_,vs,_,a⟩:=this;exact ARs.ids Xp cs _ a
 | row ty e xs st=>obtain⟨_,_,cells,_,a⟩:=this;exact qsa _ _ (ARs.ids Xp _ _ a)
 | mapo l=>
   obtain⟨_,es,q,l',_,d,a,_⟩:=this
   have b:=MapRel.ids Xp l' _ a
   have:(l.all λx=>x.1.lt h.length && x.2.lt h.length)=true:=by
    rw[qa] at b⊢
    exact λx c=>b x (d.mem_iff.2 c)
   exact this
 | raw _ _ _ _=>exact ARs.ids Xp _ _ this.2.2
 | gone=>rfl
 | res=>rfl
theorem Good.drop(k:Good B w g h w' g' (h'++L))(f:h'.length=h.length)(hi:∀o∈h',Vz h'.length o=true):Good B w g h w' g' h':=by
 have ok:=HOk.take k.ok hi
 have d:=vB w' g' h' L
 refine⟨ok,⟨λa u e=>d.rd a u (k.le.rd a u e),by simp[ctx,f],λi hi=>?_,λi hi=>k.le.β i hi,λi hi s c=>?_⟩,k.below,k.size⟩
 ·have b:=Xp i hi
  have b:i<h.length:=b
  exact d.live i (by omega) (k.le.live i hi)
 ·refine k.le.tok i hi s ?_
  have b:i<h.length:=Xp i hi
  rw[<-d.tok i (by omega)]
  exact c
theorem xIa{n:Nat}{id:Nat}{o:Ob}(b:∀o∈h,Vz n o=true)(c:Vz n o=true):∀p∈h.set id o,Vz n p=true:=λp a=>by
 rcases List.mem_or_eq_of_mem_set a with a|a
 ·exact b p a
 ·exact a▸c
theorem Wr(k:HOk B w g h)(hB:B<=w.heap.size){id:Nat}{ty e:Nat}{xs:List (List AV)}{st:Nat}(l:h[id]? =some (.row ty e xs st)):
  Good B w g h w g (h.set id .gone)/\∀u,AR (ctx w g h) (.tl id st) u->AR (ctx w g (h.set id .gone)) (.sl e xs) u:=by
 have I:w.grownBy w ((Ob.row ty e xs st).blk g id):=⟨rfl,rfl,rfl,zp _,λ_ _ _=>rfl⟩
 have z:=Le.turn (g':=g) (o':= .gone) l rfl I (λ_ _=>rfl) (λ_ _=>rfl) (λb C=>by cases C) (λ_=>⟨rfl,λs N=>by cases N⟩)
 refine⟨⟨k.turn l I (λ_ _=>rfl) (λ_ _=>rfl) (λb C=>by cases C) z trivial,z,Below.refl _ _,hB⟩,λu G=>?_⟩
 have M:qc h (.tl id st)=some xs:=by simp[qc,l]
 have J:eOf h (.tl id st)=some e:=by simp[eOf,l]
 obtain⟨A,q,D,P,K,_⟩:=wA k _ G M
 have o:=Qh G l
 have n:=K e J
 refine⟨A,q,D,P,?_⟩
 have key:∀(r:List AV) (i:Nat) (k0:Nat),(∀j a,r[j]? =some a->∃d u,A=some d/\w.cell? (d.add (i*e+(k0+j)))=some u/\AR (ctx w g h) a u)->ACells (ctx w g (h.set id .gone)) A (i*e+k0) r:=by
  intro r i
  induction r with
  | nil=>intro _ _;trivial
  | cons x r y=>
    intro k0 F
    obtain⟨d,L,E,O,z3⟩:=F 0 x rfl
    refine⟨⟨d,L,E,⟨λ⟨j,p,m,f⟩=>?_,by simpa using O⟩,AR.le z _ _ z3⟩,?_⟩
    ·
     have t:(g.cur id).ownBlock=some d.block:=by
      have:g.cur id=u:=o.symm
      rw[this,D,E];rfl
     by_cases c:j=id
     ·subst c
      rw[zo (vP l)] at m
      injection m with m
      subst m
      cases f
     ·rw[zc (λe=>c e.symm)] at m
      have v:(d.add (i*e+k0)).block=d.block:=by unfold Addr.add;split<;>rfl
      rw[v] at f
      exact k.apart j id p _ _ c m l f t
    ·have:=y (k0+1) λj a c=>by
      have:=F (j+1) a c
      rw[show k0+(j+1)=k0+1+j by omega] at this
      exact this
     rw[show i*e+k0+1=i*e+(k0+1) by omega]
     exact this
 have rows:∀(ys:List (List AV)) (i:Nat),(∀j r,ys[j]? =some r->xs[i+j]? =some r)->ARows (ctx w g (h.set id .gone)) A e i ys:=by
  intro ys
  induction ys with
  | nil=>intro _ _;trivial
  | cons r ys y=>
    intro i H
    have h0:=H 0 r rfl
    simp only[Nat.add_zero] at h0
    refine⟨⟨n.len r (qr h0),?_⟩,y (i+1) λj Q c=>by
     have:=H (j+1) Q c
     rw[show i+(j+1)=i+1+j by omega] at this
     exact this⟩
    have:=key r i 0 λj a c=>by
     rw[Nat.zero_add]
     exact n.cell i j r a h0 c
    simpa using this
 exact rows xs 0 λj r c=>by simpa using c
theorem Zva{B:Bs}{φ:Nat->Ob}{g:Gh}{h':List Ob}{c:Env}{g':Gh}{a:Act}(i:ResK h h')(k1:Good B.b w g (fill φ h) w g' (fill φ h'))(f:wT (ctx w g' (fill φ h')) c a)(d:a.defers=B.ds)(e:a.tmps.size=N):Aft N B φ w g h c h' a w:=
 ⟨g',i,⟨k1.ok,k1.size,f,d,e⟩,k1⟩
theorem Yv{B:Bs}(d:Nat){id st:Nat}{ty e:Nat}{xs:List (List AV)}(f:T d= .tl id st)(b:h[id]? =some (.row ty e xs st))(k:AWp P N B c Q (upd T d (.sl e xs)) (h.set id .gone)):AWp P N B c Q T h:=
 K5a k λφ j w g a r=>by
  obtain⟨k1,k2⟩:=Wr r.ok r.hB (qL b rfl)
  rw[<-ji rfl] at k1 k2
  refine Zva (qj b rfl) k1 (λi=>?_) r.d r.n
  unfold upd
  split
  ·rename_i hi
   subst hi
   have:=r.t i
   rw[f] at this
   exact k2 _ this
  ·exact AR.le k1.le _ _ (r.t i)
theorem Zk{B:Bs}(d:Nat){x:AV}(j:T d=x)(o:qc h x=some [])(k1:∀m,AWp P N B c Q (upd T d (.v (.slice none 0 m))) h)(k2:AWp P N B c Q (upd T d .em) h):AWp P N B c Q T h:=λφ e w g a r=>by
 have b:=r.t d
 rw[j] at b
 obtain⟨A,m,f,_⟩:=wA r.ok _ b (km _ o)
 have put:∀y,AR (ctx w g (fill φ h)) y (a.tmps.getD d undef)->Rel N B w g (fill φ h) a (upd T d y):=λy l=>⟨r.ok,r.hB,λi=>by
  unfold upd
  split
  ·rename_i hi;subst hi;exact l
  ·exact r.t i,r.d,r.n⟩
 cases A with
 | none=>exact k1 m φ e w g a (put _ f)
 | some k=>exact k2 φ e w g a (put _ ⟨k,m,f⟩)
theorem Jna(k:HOk B w g h)(hB:B<=w.heap.size):Good B w g h w g (h++[.res]):=by
 have c:=Le.more (g:=g) (g':=g) (h:=h) (o:= .res) (Below.refl _ w) (λ_ _=>rfl) (λ_ _=>rfl) (λb a=>by cases a)
 exact⟨k.more (Below.refl _ w) (λ_ _=>rfl) (λ_ _=>rfl) (λb a=>by cases a) c trivial,c,Below.refl _ _,hB⟩
theorem VF(hB:B<=w.heap.size):∀(n:Nat) {h:List Ob},HOk B w g h->Good B w g h w g (h++List.replicate n .res)
 | 0,h,k=>by simpa using Good.refl k hB
 | n+1,h,k=>by
   have k1:=Jna k hB
   have k2:=VF hB n k1.ok
   rw[zr] at k2
   exact k1.trans k2
def KeepLt(h a:List Ob):Prop:=∀φ:Nat->Ob,Upto φ h.length->(∀o∈fill φ h,Vz h.length o=true)->∀o∈fill φ a,Vz a.length o=true
theorem KeepLt.refl:KeepLt h h:=λ_ _ k=>k
theorem KeepLt.set{a:List Ob}(k:KeepLt h a){i:Nat}{o:Ob}(c:o.isRes=false)(d:Vz a.length o=true):KeepLt h (a.set i o):=λφ b q=>by
 rw[ji c,zJ]
 exact xIa (k φ b q) d
def vCa(P:Program)(rs:List ResultVar)(h:List Ob)(R:AV->List Ob->Prop):xR
 | .normal,T,h' | .ret,T,h'=>∃r,VE P T h' rs=some r/\(R r h'∨∃a L,h'=a++L/\a.length=h.length/\r.lt a.length=true/\KeepLt h a/\R r a)
 | _,_,_=>False
theorem jM{f:FuncId}{fn:Func}{c:Code}{aZ:List AV}{R:AV->List Ob->Prop}{rs:List ResultVar}{N:Nat}(E:P.funcs[f]? =some fn)(G:fn.body=some c)(F:fn.ntmps=N)(p:fn.results.toList=rs)(D:aZ.length<=N)(j:Yq P f=true)(hex:∃r h',R r h'/\ResK h h')
  (k:∀B,AWp P N B c (vCa P rs h R) (nth aZ) h):ACalls P f aZ h R:=⟨j,hex,λφ t B w g vs y hB d=>by
 subst F p
 have:=z7a (R:=λr h'=>R r h'∨∃a L,h'=a++L/\a.length=h.length/\r.lt a.length=true/\KeepLt h a/\R r a) E G D j (let ⟨r,h',l,s⟩:=hex;⟨r,h',.inl l,s⟩)
  (λB=>(k B).mono λe T h' q=>by cases e<;>exact q)
 refine(this.2.2 φ t B w g vs y hB d).mono λe w' ⟨v,r,h',g',x,u,z,n,o⟩=>?_
 rcases u with u|⟨a,L,rfl,l,s,C,A⟩
 ·exact⟨v,r,h',g',x,u,z,n,o⟩
 ·have m:Upto φ a.length:=t.mono (by omega)
  rw[xc m] at n o
  refine⟨v,r,a,g',x,A,λi hi=>?_,n.drop (by rw[ju,ju,l]) ?_,AR.less (vB w' g' (fill φ a) L) _ _ (by rw[ju];exact s) o⟩
  ·have:=z i hi
   rw[zN (by rw[l];exact(zd.1 hi).1)] at this
   exact this
  ·rw[ju]
   have b:=y.ids
   rw[ju] at b
   exact C φ t b⟩
def xy(P:Program)(f:FuncId)(aZ:List AV)(r:AV):Prop:=∀h,ACalls P f aZ h λa h'=>a=r/\h'=h
theorem Xq{rs:List ResultVar}{r:AV}{T:Env}{L:List Ob}(a:VE P T (h++L) rs=some r)(c:r.lt h.length=true):vCa P rs h (λb h'=>b=r/\h'=h) .ret T (h++L):=
 ⟨r,a,.inr ⟨h,L,rfl,rfl,c,.refl,rfl,rfl⟩⟩
theorem Ke{rs:List ResultVar}{r:AV}{T:Env}(a:VE P T h rs=some r):vCa P rs h (λb h'=>b=r/\h'=h) .ret T h:=
 ⟨r,a,.inl ⟨rfl,rfl⟩⟩
theorem zn{rs:List ResultVar}{r:AV}{T:Env}{H:List Ob}(b:VE P T H rs=some r)(a:H=h∨∃L,H=h++L/\r.lt h.length=true:=by first|exact .inl rfl|exact .inr ⟨_,rfl,rfl⟩):vCa P rs h (λc h'=>c=r/\h'=h) .ret T H:=by
 rcases a with e|⟨L,e,a⟩
 ·subst e
  exact Ke b
 ·subst e
  exact Xq b a
end
