import Derived.Test.YtjeehgkolepogaaGreatK03
set_option linter.all false
namespace Go.Proofs.YtjeehgkolepogaaGreat.Ax
open Go Go.RowKit
mutual
def AR.ids{c:Ctx}(b:∀i,c.live i->i<c.n):∀(a:AV) (u:Value),AR c a u->a.lt c.n=true
 | .v _,_,_=>rfl
 | .sl e xs,_,⟨A,_,_,_,h⟩=>by simpa [AV.lt] using ARows.ids b A e 0 xs h
 | .tl id st,_,h=>by simpa [AV.lt] using b id h.2.1
 | .em,_,_=>rfl
 | .vw a e i n,_,⟨_,_,_,_,_,h,_⟩=>by simpa [AV.lt] using AR.ids b a _ h
 | .ptr id off,_,h=>by simpa [AV.lt] using b id h.1
 | .ep a e i k,_,⟨_,_,_,h,_⟩=>by simpa [AV.lt] using AR.ids b a _ h
 | .mp id,_,h=>by simpa [AV.lt] using b id h.1
 | .ag d,_,⟨_,_,h⟩=>by simpa [AV.lt] using ARs.ids b d _ h
 | .tup d,_,⟨_,_,h⟩=>by simpa [AV.lt] using ARs.ids b d _ h
 | .fn f g d,_,⟨_,_,_,h,k⟩=>by simpa [AV.lt] using ⟨ARs.ids b g _ h,ARs.ids b d _ k⟩
 | .bad,_,_=>rfl
def ARs.ids{c:Ctx}(b:∀i,c.live i->i<c.n):∀(aZ:List AV) (vs:List Value),ARs c aZ vs->qN c.n aZ=true
 | [],_,_=>rfl
 | a::aZ,_,⟨_,r,_,e,d⟩=>by simpa [qN] using ⟨AR.ids b a _ e,ARs.ids b aZ _ d⟩
def ARows.ids{c:Ctx}(a:∀i,c.live i->i<c.n)(A:Option Addr)(e:Nat):∀(i:Nat) (rs:List (List AV)),ARows c A e i rs->jh c.n rs=true
 | _,[],_=>rfl
 | i,r::rs,⟨⟨_,d⟩,b⟩=>by simpa [jh] using ⟨ACells.ids a A (i*e) r d,ARows.ids a A e (i+1) rs b⟩
def ACells.ids{c:Ctx}(b:∀i,c.live i->i<c.n)(A:Option Addr):∀(k:Nat) (aZ:List AV),ACells c A k aZ->qN c.n aZ=true
 | _,[],_=>rfl
 | k,a::aZ,⟨⟨_,_,_,_,e⟩,d⟩=>by simpa [qN] using ⟨AR.ids b a _ e,ACells.ids b A (k+1) aZ d⟩
end
def MapRel.ids{c:Ctx}(d:∀i,c.live i->i<c.n):∀(l:List (AV × AV)) (es:List MapEntry),MapRel c l es->(l.all λx=>x.1.lt c.n && x.2.lt c.n)=true
 | [],_,_=>rfl
 | (a,b)::r,_,⟨e,q,j,g,f,h⟩=>by
   simp only[List.all_cons,zi];exact⟨⟨AR.ids d a _ g,AR.ids d b _ f⟩,MapRel.ids d r q h⟩
def XN:∀(n:Nat) (xs:List (List AV)),qN n xs.flatten=true->jh n xs=true
 | _,[],_=>rfl
 | n,r::rs,h=>by
   have key:∀(a b:List AV),qN n (a++b)=true->qN n a=true/\qN n b=true:=λa=>by
    induction a with
    | nil=>intro b h;exact⟨rfl,h⟩
    | cons x a c=>intro b h;simp only[List.cons_append,qN,zi] at h ⊢;exact⟨⟨h.1,(c b h.2).1⟩,(c b h.2).2⟩
   rw[List.flatten_cons] at h;have:=key r rs.flatten h;simp only[jh,zi];exact⟨this.1,XN n rs this.2⟩
section
variable {B:Nat} {w w':World} {g g':Gh} {h h' L:List Ob} {P:Program} {N:Nat} {T:Env} {Q:xk} {c:Code}
def Zc:∀i,(ctx w g h).live i->i<(ctx w g h).n:=λi ⟨o,a,_⟩=>xP a
def HOk.ids(k:HOk B w g h):∀o∈h,Kv h.length o=true:=λo d=>by
 obtain⟨i,hi⟩:=List.mem_iff_getElem?.1 d;have:=k.ok i o hi;cases o with
 | box ty f=>obtain⟨_,vs,_,a⟩:=this;exact ARs.ids Zc f _ a
 | row ty e xs st=>obtain⟨_,_,cells,_,a⟩:=this;exact XN _ _ (ARs.ids Zc _ _ a)
 | mapo l=>
   obtain⟨_,es,q,c,_,j,a,_⟩:=this;have b:=MapRel.ids Zc c _ a
   have:(l.all λx=>x.1.lt h.length && x.2.lt h.length)=true:=by
    rw[zY] at b⊢;exact λx m=>b x (j.mem_iff.2 m)
   exact this
 | raw _ _ _ _=>exact ARs.ids Zc _ _ this.2.2
 | gone=>rfl
 | res=>rfl
def Good.drop(k:Good B w g h w' g' (h'++L))(f:h'.length=h.length)(hi:∀o∈h',Kv h'.length o=true):Good B w g h w' g' h':=by
 have ok:=HOk.take k.ok hi;have d:=wW w' g' h' L;refine⟨ok,⟨λa u e=>d.rd a u (k.le.rd a u e),by simp[ctx,f],λi hi=>?_,λi hi=>k.le.β i hi,λi hi s c=>?_⟩,k.below,k.size⟩
 ·have b:=Zc i hi;have b:i<h.length:=b;exact d.live i zb (k.le.live i hi)
 ·refine k.le.tok i hi s ?_;have b:i<h.length:=Zc i hi;rw[<-d.tok i zb];exact c
def qKa{n:Nat}{id:Nat}{o:Ob}(c:∀o∈h,Kv n o=true)(b:Kv n o=true):∀p∈h.set id o,Kv n p=true:=λp a=>by
 rcases List.mem_or_eq_of_mem_set a with a|a
 ·exact c p a
 ·exact a▸b
def freeze_good(k:HOk B w g h)(hB:B<=w.heap.size){id:Nat}{ty e:Nat}{xs:List (List AV)}{st:Nat}(f:h[id]? =some (.row ty e xs st)):
    Good B w g h w g (h.set id .gone)/\∀u,AR (ctx w g h) (.tl id st) u->AR (ctx w g (h.set id .gone)) (.sl e xs) u:=by
 have E:w.grownBy w ((Ob.row ty e xs st).blk g id):=⟨rfl,rfl,rfl,zB _,λ_ _ _=>rfl⟩;have v:=Le.turn (g':=g) (o':= .gone) f rfl E (λ_ _=>rfl) (λ_ _=>rfl) (λb C=>by cases C) (λ_=>⟨rfl,λs O=>by cases O⟩);refine⟨⟨k.turn f E (λ_ _=>rfl) (λ_ _=>rfl) (λb C=>by cases C) v trivial,v,Below.refl _ _,hB⟩,λu H=>?_⟩;have Q:zI h (.tl id st)=some xs:=by simp[zI,f]
 have L:eOf h (.tl id st)=some e:=by simp[eOf,f]
 obtain⟨A,q,G,N,J,_⟩:=rows_ok k _ H Q;have t:=ZB H f;have n:=J e L;refine⟨A,q,G,N,?_⟩
 have key:∀(r:List AV) (i:Nat) (k0:Nat),(∀j a,r[j]? =some a->∃d u,A=some d/\w.cell? (d.add (i*e+(k0+j)))=some u/\AR (ctx w g h) a u)->ACells (ctx w g (h.set id .gone)) A (i*e+k0) r:=by
  intro r i
  induction r with
  | nil=>intro _ _;trivial
  | cons x r y=>
    intro k0 I;obtain⟨d,P,F,K,z3⟩:=I 0 x rfl;refine⟨⟨d,P,F,⟨λ⟨j,p,m,l⟩=>?_,by simpa using K⟩,AR.le v _ _ z3⟩,?_⟩
    ·
     have o:(g.cur id).ownBlock=some d.block:=by
      have:g.cur id=u:=t.symm;rw[this,G,F];rfl
     by_cases c:j=id
     ·subst c;rw[zr (xP f)] at m;injection m with m;subst m;cases l
     ·rw[zf (λe=>c e.symm)] at m;have z:(d.add (i*e+k0)).block=d.block:=(by unfold Addr.add;split<;>rfl);rw[z] at l;exact k.apart j id p _ _ c m f l o
    ·have:=y (k0+1) λj a c=>by
      have:=I (j+1) a c;rw[show k0+(j+1)=k0+1+j by omega] at this;exact this
     rw[show i*e+k0+1=i*e+(k0+1) by omega];exact this
 have rows:∀(ys:List (List AV)) (i:Nat),(∀j r,ys[j]? =some r->xs[i+j]? =some r)->ARows (ctx w g (h.set id .gone)) A e i ys:=by
  intro ys
  induction ys with
  | nil=>intro _ _;trivial
  | cons r ys y=>
    intro i D;have h0:=D 0 r rfl;simp only[Nat.add_zero] at h0
    refine⟨⟨n.len r (ja h0),?_⟩,y (i+1) λj M c=>by
     have:=D (j+1) M c;rw[show i+(j+1)=i+1+j by omega] at this;exact this⟩
    have:=key r i 0 λj a c=>by
     rw[Nat.zero_add];exact n.cell i j r a h0 c
    simpa using this
 exact rows xs 0 λj r c=>by simpa using c
def zza{B:Bs}{φ:Nat->Ob}{g:Gh}{h':List Ob}{c:Env}{g':Gh}{a:Act}(i:ResK h h')(k1:Good B.b w g (fill φ h) w g' (fill φ h'))(e:wM (ctx w g' (fill φ h')) c a)(d:a.defers=B.ds)(f:a.tmps.size=N):Aft N B φ w g h c h' a w:=
 ⟨g',i,⟨k1.ok,k1.size,e,d,f⟩,k1⟩
def WF{B:Bs}(d:Nat){id st:Nat}{ty e:Nat}{xs:List (List AV)}(f:T d= .tl id st)(b:h[id]? =some (.row ty e xs st))(k:AWp P N B c Q (upd T d (.sl e xs)) (h.set id .gone)):AWp P N B c Q T h:=
 xMa k λφ j w g a r=>by
  obtain⟨k1,k2⟩:=freeze_good r.ok r.hB (jD b rfl);rw[<-ko rfl] at k1 k2;refine zza (qX b rfl) k1 (λi=>?_) r.d r.n;unfold upd;split
  ·rename_i hi;subst hi;have:=r.t i;rw[f] at this;exact k2 _ this
  ·exact AR.le k1.le _ _ (r.t i)
def xQa{B:Bs}(d:Nat){x:AV}(j:T d=x)(k:zI h x=some [])(k1:∀m,AWp P N B c Q (upd T d (.v (.slice none 0 m))) h)(k2:AWp P N B c Q (upd T d .em) h):AWp P N B c Q T h:=λφ f w g a r=>by
 have b:=r.t d;rw[j] at b;obtain⟨A,m,e,_⟩:=rows_ok r.ok _ b (j6 _ k)
 have put:∀y,AR (ctx w g (fill φ h)) y (a.tmps.getD d undef)->Rel N B w g (fill φ h) a (upd T d y):=λy l=>⟨r.ok,r.hB,λi=>by
  unfold upd;split
  ·rename_i hi;subst hi;exact l
  ·exact r.t i,r.d,r.n⟩
 cases A with
 | none=>exact k1 m φ f w g a (put _ e)
 | some o=>exact k2 φ f w g a (put _ ⟨o,m,e⟩)
def qLa(k:HOk B w g h)(hB:B<=w.heap.size):Good B w g h w g (h++[.res]):=by
 have c:=Le.more (g:=g) (g':=g) (h:=h) (o:= .res) (Below.refl _ w) (λ_ _=>rfl) (λ_ _=>rfl) (λb a=>by cases a);exact⟨k.more (Below.refl _ w) (λ_ _=>rfl) (λ_ _=>rfl) (λb a=>by cases a) c trivial,c,Below.refl _ _,hB⟩
def XO(hB:B<=w.heap.size):∀(n:Nat) {h:List Ob},HOk B w g h->Good B w g h w g (h++List.replicate n .res)
 | 0,h,k=>by simpa using Good.refl k hB
 | n+1,h,k=>by
   have k1:=qLa k hB;have k2:=XO hB n k1.ok;rw[zq] at k2;exact k1.trans k2
def KeepLt(h a:List Ob):Prop:=∀φ:Nat->Ob,Upto φ h.length->(∀o∈fill φ h,Kv h.length o=true)->∀o∈fill φ a,Kv a.length o=true
def KeepLt.refl:KeepLt h h:=λ_ _ k=>k
def KeepLt.set{a:List Ob}(k:KeepLt h a){i:Nat}{o:Ob}(d:o.isRes=false)(c:Kv a.length o=true):KeepLt h (a.set i o):=λφ b q=>by
 rw[ko d,qP];exact qKa (k φ b q) c
def Jy(P:Program)(rs:List ResultVar)(h:List Ob)(R:AV->List Ob->Prop):xk
 | .normal,T,h' | .ret,T,h'=>∃r,Xx P T h' rs=some r/\(R r h'∨∃a L,h'=a++L/\a.length=h.length/\r.lt a.length=true/\KeepLt h a/\R r a)
 | _,_,_=>False
def acalls_of{f:FuncId}{fn:Func}{c:Code}{aZ:List AV}{R:AV->List Ob->Prop}{rs:List ResultVar}{N:Nat}(G:P.funcs[f]? =some fn)(F:fn.body=some c)(E:fn.ntmps=N)(n:fn.results.toList=rs)(C:aZ.length<=N)(j:Vu P f=true)(hex:∃r h',R r h'/\ResK h h')
    (k:∀B,AWp P N B c (Jy P rs h R) (nth aZ) h):ACalls P f aZ h R:=⟨j,hex,λφ s B w g vs x hB d=>by
 subst E n
 have:=acalls_of_awp (R:=λr h'=>R r h'∨∃a L,h'=a++L/\a.length=h.length/\r.lt a.length=true/\KeepLt h a/\R r a) G F C j (let ⟨r,h',l,o⟩:=hex;⟨r,h',.inl l,o⟩)
  (λB=>(k B).mono λe T h' q=>by cases e<;>exact q)
 refine(this.2.2 φ s B w g vs x hB d).mono λe w' ⟨v,r,h',g',z,p,y,m,t⟩=>?_;rcases p with p|⟨a,L,rfl,l,o,D,A⟩
 ·exact⟨v,r,h',g',z,p,y,m,t⟩
 ·have u:Upto φ a.length:=s.mono zb;rw[wh u] at m t;refine⟨v,r,a,g',z,A,λi hi=>?_,m.drop (by rw[jH,jH,l]) ?_,AR.less (wW w' g' (fill φ a) L) _ _ (by rw[jH];exact o) t⟩
  ·have:=y i hi;rw[zH (by rw[l];exact(zj.1 hi).1)] at this;exact this
  ·rw[jH];have b:=x.ids;rw[jH] at b;exact D φ s b⟩
def js(P:Program)(f:FuncId)(aZ:List AV)(r:AV):Prop:=∀h,ACalls P f aZ h λa h'=>a=r/\h'=h
def zAa{rs:List ResultVar}{r:AV}{T:Env}{L:List Ob}(b:Xx P T (h++L) rs=some r)(c:r.lt h.length=true):Jy P rs h (λa h'=>a=r/\h'=h) .ret T (h++L):=
 ⟨r,b,.inr ⟨h,L,rfl,rfl,c,.refl,rfl,rfl⟩⟩
def WG{rs:List ResultVar}{r:AV}{T:Env}(b:Xx P T h rs=some r):Jy P rs h (λa h'=>a=r/\h'=h) .ret T h:=
 ⟨r,b,.inl ⟨rfl,rfl⟩⟩
def zm{rs:List ResultVar}{r:AV}{T:Env}{H:List Ob}(b:Xx P T H rs=some r)(a:H=h∨∃L,H=h++L/\r.lt h.length=true:=by first|exact .inl rfl|exact .inr ⟨_,rfl,rfl⟩):Jy P rs h (λc h'=>c=r/\h'=h) .ret T H:=by
 rcases a with e|⟨L,e,a⟩
 ·subst e;exact WG b
 ·subst e;exact zAa b a
end
