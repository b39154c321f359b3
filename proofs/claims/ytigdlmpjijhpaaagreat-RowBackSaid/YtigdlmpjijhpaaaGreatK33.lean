import Derived.Test.YtigdlmpjijhpaaaGreatKA
import Derived.Test.YtigdlmpjijhpaaaGreatK10
import Derived.Test.YtigdlmpjijhpaaaGreatK24
import Derived.OrdersIn
import Derived.RangeFuncCalls
import Derived.RangeFuncNested
import Derived.RangeFuncLeaves
import Derived.Test.YtigdlmpjijhpaaaGreatK19
import Derived.Test.YtigdlmpjijhpaaaGreatK23
set_option linter.all false
namespace Go.Proofs.YtigdlmpjijhpaaaGreat.Ax
open Go Go.RowKit
def Vba(P:Program)(N:Nat)(o:Oper)(K:Env->List Ob->Prop)(T:Env)(h:List Ob):Prop:=
 ∀ (φ:Nat->Ob),Upto φ h.length->∀(B:Bs) (w:World) (g:Gh) (a:Act),Rel N B w g (fill φ h) a T->∀(Q:Exit->Act->World->Prop) (next:Act->World->Prop),
   (∀c h' w' b,K c h'->Aft N B φ w g h c h' b w'->next b w')->o.wp P a w next Q
section
variable {P:Program} {N:Nat} {B:Bs} {ops:Array Oper} {T:Env} {h:List Ob} {K:Env->List Ob->Prop} {o:Oper}
def Xra(P:Program)(N:Nat)(K:Env->List Ob->Prop):List Oper->Env->List Ob->Prop
 | [],T,h=>K T h
 | o::l,T,h=>o.guard=none/\Vba P N o (Xra P N K l) T h
theorem wda:Xra P N K [] T h=K T h:=id rfl
attribute [go_sem] wda
end
section
variable {P:Program} {ops:Array Oper} {Q:Exit->Act->World->Prop}
theorem Jt(l n:Nat){o:Oper}{a:Act}{w:World}{K K':Act->World->Prop}(p:∀c,o.op≠ .defer c)(d:∀a w,K a w->K' a w)(h:o.wpIn Fence.wide n P a w K Q):o.wpIn (Fence.wide.inRound l) n P a w K' Q:=by
 unfold Oper.wpIn at h⊢
 refine⟨λ_ _=>trivial,?_⟩
 have h:=h.2
 rw[Oper.semAt_eq _ _ _ p] at h⊢
 generalize (execOp a.eval o).run P w=r at h⊢
 have b:∀row args w' (R k:Value->World->Prop),(∀v w,R v w->k v w)->RowsIn Fence.wide (n - 1) P row args w' R->RowsIn (Fence.wide.inRound l) (n - 1) P row args w' k:=λrow args w' R k u h c cs i=>by
  obtain⟨v,j,m,y⟩:=h c cs (room_wide _)
  exact⟨v,j,u _ _ m,y⟩
 cases r with
 | ok x w'=>
   cases x with
   | value v=>exact d _ _ h
   | skip=>exact d _ _ h
   | enter f ar=>exact⟨λg=>(by cases g),CallsIn.inRound l (h.2.mono λe j q=>by cases e<;>first|exact d _ _ q|exact q)⟩
   | row r ar=>exact⟨λg=>(by cases g),b _ _ _ _ _ (λ_ _=>d _ _) h.2⟩
   | round l' f s aZ t=>exact⟨λg=>(by cases g),(show RoundIn Fence.wide _ P l' f s aZ t _ _ from h.2.mono λe j q=>by cases e<;>first|exact d _ _ q|exact q)⟩
   | _=>first|exact h|exact h.elim|exact d _ _ h
 | halt x w'=>
   cases x<;>first|exact h|exact h.elim
def Q6(ops:Array Oper):Bool:=ops.toList.all λo=>match o.op with | .defer _=>false|_=>true
theorem VS(h:Q6 ops=true){i:Nat}{o:Oper}(a:ops[i]? =some o):∀c,o.op≠ .defer c:=by
 intro c b
 unfold Q6 at h
 rw[zL] at h
 have:=h o (by rw[<-qB] at a;exact qn a)
 rw[b] at this
 cases this
theorem xNa(l n:Nat)(d:¬ LetsOut Q)(e:Q6 ops=true){i:Nat}{a:Act}{w:World}{K:Act->World->Prop}(h:wpOp P ops Q i K a w):wpOpIn (Fence.wide.inRound l) n P ops Q i K a w:=by
 unfold wpOp at h
 unfold wpOpIn
 cases c:ops[i]? with
 | none=>rw[c] at h;exact h
 | some o=>
   rw[c] at h
   simp only at h⊢
   split
   ·rename_i b
    rw[if_pos b] at h
    rcases h with h|⟨_,h⟩
    ·exact Jt l n (VS e c) (λ_ _ q=>q) (xX n h)
    ·exact absurd h d
   ·rename_i b
    rw[if_neg b] at h
    exact⟨λ_ _=>trivial,h⟩
theorem KD(l n:Nat)(c:¬ LetsOut Q)(d:Q6 ops=true):∀(b:Nat) (listed:Array Bool) (a:Act) (w:World),wpAny P .any ops Q b listed a w->wpAnyIn (Fence.wide.inRound l) n P .any ops Q b listed a w
 | 0,_,_,_,h=>h
 | b+1,_,_,_,h=>⟨h.1,λi hi=>xNa l n c d (wpOp_mono (λe w' h'=>KD l n c d b _ e w' h') (h.2 i hi))⟩
theorem VT(b n:Nat):∀(l:List Oper) {a:Act} {w:World},(∀o∈l,∀c,o.op≠ .defer c)->wpListIn Fence.wide n P ops Q l a w->wpListIn (Fence.wide.inRound b) n P ops Q l a w
 | [],_,_,_,h=>h
 | o::l,a,w,e,h=>by
   have f:∀a w,wpListIn Fence.wide n P ops Q l a w->wpListIn (Fence.wide.inRound b) n P ops Q l a w:=λa w=>VT b n l λx g=>e x (.tail _ g)
   unfold wpListIn at h⊢
   split
   ·rename_i d
    rw[if_pos d] at h
    exact Jt b n (e o (.head _)) f h
   ·rename_i d
    rw[if_neg d] at h
    exact⟨λ_ _=>trivial,f _ _ h.2⟩
end
section
variable {P:Program} {N b:Nat} {T:Env} {h:List Ob} {c c':Code} {ops:Array Oper} {Q Q':jA}
def RWp(P:Program)(N b l:Nat)(c:Code)(Q:jA)(T:Env)(h:List Ob):Prop:=
 ∀(φ:Nat->Ob),Upto φ h.length->∀(w:World) (g:Gh) (a:Act),Rel N ⟨b,[]⟩ w g (fill φ h) a T->c.wpIn (Fence.wide.inRound l) 0 P (λe f w'=>∃d h',Q e d h'/\Aft N ⟨b,[]⟩ φ w g h d h' f w') a w
theorem QZa{l:Nat}(k:RWp P N b l c (wL (RWp P N b l c' Q) Q) T h):RWp P N b l (.seq c c') Q T h:=λφ f w g a r=>by
 refine wpIn_seq (Code.wpIn_mono (λe u w' ⟨q,h',i,d⟩=>?_) (k φ f w g a r))
 have p:=d.len
 cases e<;>first
  | (obtain⟨g',o,m,j⟩:=d;exact Code.wpIn_mono (λ_ _ _ ⟨s,n,t,v⟩=>⟨s,n,t,v.trans o j⟩) (i φ (f.mono p) w' g' u m))
  | exact⟨q,h',i,d⟩
theorem YK{l id:Nat}(k:RWp P N b l c (ZL id Q) T h):RWp P N b l (.block id c) Q T h:=λφ m w g a r=>by
 refine wpIn_block (Code.wpIn_mono (λe n w' ⟨j,h',d,f⟩=>?_) (k φ m w g a r))
 cases e with
 | exit i=>
   simp only[ZL] at d
   simp only[Exit.inBlock]
   split
   ·rename_i hi;rw[if_pos hi] at d;exact⟨j,h',d,f⟩
   ·rename_i hi;rw[if_neg hi] at d;exact⟨j,h',d,f⟩
 | _=>exact⟨j,h',d,f⟩
theorem ZR{l id:Nat}(c:ops.toList.all (kC N)=true)(f:Q6 ops=true)(k:wpR P ops (Q .normal) ops.toList T h):RWp P N b l (.region id ops false) Q T h:=λφ d w g a r=>by
 refine wpIn_region ?_
 rw[List.range_eq_range', <-qP,wpOpsIn_eq_wpListIn ops.toList 0 (by simp)]
 refine VT l 0 ops.toList (λo j=>?_) (yr ops.toList c d (VL _ k) r λe h' w' m k' q=>⟨e,h',k',q⟩)
 obtain⟨i,hi⟩:=List.mem_iff_getElem?.1 j
 exact VS f (i:=i) (by rw[<-qB];exact hi)
theorem y0a{l id:Nat}(F:P.follows .mixedOrders=true)(L:List Ob)(k:Nat)(c:List Ent)(G:L=List.replicate k .res)(M:ops.toList.all (kC N)=true)(f:Qy ops k c=true)(J:Q6 ops=true)(p:∀T h,¬ Q .outgrown T h)(O:wpQ P ops h.length (Q .normal) c T (h++L)):RWp P N b l (.region id ops true) Q T h:=λφ z w g a r=>by
 have kk:=kQa _ (G▸O)
 simp only[Qy,zj,zL,decide_eq_true_eq,List.contains_eq_mem,jg] at f
 obtain⟨⟨⟨⟨⟨X,E⟩,A⟩,S⟩,C⟩,m⟩:=f
 have j:=Good.drew (g:=g) r.ok r.hB
 have y:=Q1 j.size k j.ok
 have s:=j.trans y
 have x:fill φ (h++List.replicate k .res)=fill φ h++List.replicate k .res:=jO z
 rw[<-x] at s
 have U:Rel N ⟨b,[]⟩ w.drew g (fill φ (h++List.replicate k .res)) a T:=⟨s.ok,s.size,λi=>AR.le s.le _ _ (r.t i),r.d,r.n⟩
 refine wpIn_region_any F (KD l 0 ?_ J _ _ _ _ ?_)
 ·rintro ⟨a1,w1,Z,h1,H,_⟩
  exact p _ _ H
 have R:Rest ops (Array.replicate ops.size false) c:=by
  refine⟨by simp,C,λi hi=>?_,wG c X,λq p=>⟨k,A q p⟩,λi o v D=>?_⟩
  ·simp[zt,hi]
   have:=S i hi
   simpa using this
  ·have hi:i<ops.size:=by
    rcases Nat.lt_or_ge i ops.size with h|h
    ·exact h
    ·rw[Array.getElem?_eq_none h] at v;cases v
   simp[zt,hi] at D
 refine X0 (K:=Q .normal) z E M ops.size _ c m R (by simp) (λq p o v B=>?_) kk U λI h' w' g' a' k' V W q=>⟨I,h',k',g',λi hi=>?_,W,s.trans q⟩
 ·obtain⟨o',e,_,_,Y,_⟩:=wN (A q p)
  rw[v] at e
  injection e with e
  subst e
  have:=Y B
  rw[zI (by omega),Nat.add_sub_cancel_left,List.getElem?_replicate,if_pos this]
 ·have u:=(zd.1 hi).1
  exact V i u (by rw[zC u];exact hi)
abbrev Zr:=Exit->List Deferred->Env->List Ob->Prop
def Jn(P:Program)(N b:Nat)(ds:List Deferred)(c:Code)(Q:Zr)(T:Env)(h:List Ob):Prop:=
 ∀ (φ:Nat->Ob),Upto φ h.length->∀(w:World) (g:Gh) (a:Act),Rel N ⟨b,ds⟩ w g (fill φ h) a T->
   c.wp P (λe i w'=>∃d f h',Q e d f h'/\∃g',ResK h h'/\Rel N ⟨b,d⟩ w' g' (fill φ h') i f/\Good b w g (fill φ h) w' g' (fill φ h')) a w
variable {ds:List Deferred} {X X':Zr}
theorem kSa(k:AWp P N ⟨b,ds⟩ c Q T h)(m:∀e T h,Q e T h->X e ds T h):Jn P N b ds c X T h:=λφ j w g a r=>
 wp_mono (k φ j w g a r) λe o w' ⟨l,h',n,g',d,f,i⟩=>⟨ds,l,h',m _ _ _ n,g',d,f,i⟩
def Vca(K:List Deferred->Env->List Ob->Prop)(X:Zr):Zr
 | .normal,ds,T,h=>K ds T h
 | e,ds,T,h=>X e ds T h
theorem VU(k:Jn P N b ds c (Vca (λd T h=>Jn P N b d c' X T h) X) T h):Jn P N b ds (.seq c c') X T h:=λφ l w g a r=>by
 refine wp_seq (wp_mono (k φ l w g a r) λe v w' ⟨d,q,h',n,g',m,j,f⟩=>?_)
 have p:h.length<=h'.length:=Qr f
 cases e<;>first
  | exact wp_mono (n φ (l.mono p) w' g' v j) λ_ _ _ ⟨i,s,o,u,t,x,z3,z4⟩=>⟨i,s,o,u,t,m.trans x,z3,f.trans z4⟩
  | exact⟨d,q,h',n,g',m,j,f⟩
theorem KE{id:Nat}(k:Jn P N b ds c (λe d T h=>e= .normal/\X .normal d T h) T h):Jn P N b ds (.block id c) X T h:=λφ i w g a r=>by
 refine wp_block (wp_mono (k φ i w g a r) λe n w' ⟨d,l,h',⟨j,m⟩,f⟩=>?_)
 subst j
 exact⟨d,l,h',m,f⟩
end
def PCalls(P:Program)(f:FuncId)(aZ:List AV)(h:List Ob)(R:AV->List Ob->Prop)(X:List PanicEntry->List Ob->Prop):Prop:=
 JF P f=true/\∀(φ:Nat->Ob),Upto φ h.length->∀(B:Nat) (w:World) (g:Gh) (vs:List Value),HOk B w g (fill φ h)->B<=w.heap.size->ARs (ctx w g (fill φ h)) aZ vs->
  Calls P f vs.toArray w λe w'=>(∃v r h' g',e= .returned v/\R r h'/\ResK h h'/\Good B w g (fill φ h) w' g' (fill φ h')/\AR (ctx w' g' (fill φ h')) r v)∨
   ∃a h' g',e= .panicked a/\X a h'/\ResK h h'/\Good B w g (fill φ h) w' g' (fill φ h')
theorem PCalls.mono{P:Program}{f:FuncId}{aZ:List AV}{h:List Ob}{R j:AV->List Ob->Prop}{X X':List PanicEntry->List Ob->Prop}(c:PCalls P f aZ h R X)(l:∀r h',R r h'->j r h')(m:∀a h',X a h'->X' a h'):PCalls P f aZ h j X':=
 ⟨c.1,λφ k B w g vs a1 a2 a3=>(c.2 φ k B w g vs a1 a2 a3).mono λe w' q=>by
  rcases q with⟨v,r,h',g',i,d,b⟩|⟨a,h',g',i,d,b⟩
  ·exact .inl ⟨v,r,h',g',i,l _ _ d,b⟩
  ·exact .inr ⟨a,h',g',i,m _ _ d,b⟩⟩
def xOa(P:Program)(f:FuncId)(aZ:List AV)(h:List Ob)[k:Held (AV->List Ob->Prop)][x:Held (List PanicEntry->List Ob->Prop)]:Prop:=PCalls P f aZ h k.it x.it
theorem vX{P:Program}{f:FuncId}{aZ:List AV}{h:List Ob}{R K:AV->List Ob->Prop}{X Y:List PanicEntry->List Ob->Prop}(c:PCalls P f aZ h R X)(k:∀r h',R r h'->K r h')(y:∀a h',X a h'->Y a h'): @xOa P f aZ h ⟨K⟩ ⟨Y⟩:=c.mono k y
def VV(P:Program)(x:AV)(aZ:List AV)(h:List Ob)[k:Held (AV->List Ob->Prop)][y:Held (List PanicEntry->List Ob->Prop)]:Prop:=match x with
 | .fn (.func f) a cs=>xOa P f (a++aZ++cs) h
 | _=>False
theorem y1a{P:Program}{f:FuncId}{a cs aZ:List AV}{h:List Ob}{k:AV->List Ob->Prop}{y:List PanicEntry->List Ob->Prop}: @VV P (.fn (.func f) a cs) aZ h ⟨k⟩ ⟨y⟩= @xOa P f (a++aZ++cs) h ⟨k⟩ ⟨y⟩:=id rfl
def VW(P:Program)(o:Oper)(Q:jA)(T:Env)(h:List Ob):Prop:=match qx o.op with
 | some (x,args)=> @VV P (ev T x) (evl T args) h ⟨λr h'=>Q .normal (qK T o.dst r) h'⟩ ⟨λa h'=>Q (.panic a) T h'⟩
 | none=>False
section
variable {P:Program} {N:Nat} {B:Bs} {ops:Array Oper} {T:Env} {h:List Ob} {o:Oper} {Q:jA}
theorem VX{φ:Nat->Ob}(R:Upto φ h.length)(V:kC N o=true)(k:VW P o Q T h){w:World}{g:Gh}{a:Act}(r:Rel N B w g (fill φ h) a T){Y:Exit->Act->World->Prop}
  (E:∀e D h' w' F,Q e D h'->Aft N B φ w g h D h' F w'->Y e F w'):o.wp P a w (Y .normal) Y:=by
 unfold VW at k
 split at k
 ·rename_i X args u
  have c:∃aZ j,o.op= .call ⟨.value X,aZ,j⟩/\aZ.toList=args:=by
   unfold qx at u
   split at u
   ·rename_i X' aZ j H
    injection u with u
    injection u with h1 h2
    subst h1
    exact⟨aZ,j,H,h2⟩
   ·cases u
  obtain⟨aZ,j,c,has⟩:=c
  subst has
  unfold VV at k
  split at k
  ·rename_i f O cs S
   obtain⟨k1,k2⟩:=k
   have C:=jC r.t X
   rw[S] at C
   obtain⟨us,vs,K,I,W⟩:=C
   have m:ARs (ctx w g (fill φ h)) (O++evl T aZ.toList++cs) (us.toList++aZ.toList.map a.eval++vs.toList):=jY (jY I (ZK r.t _)) W
   have s:=k2 φ R B.b w g _ r.ok r.hB m
   have p:∃fn,P.funcs[f]? =some fn/\fn.name≠ "runtime.NumGoroutine" /\fn.body.isSome=true:=by
    unfold JF at k1
    split at k1
    ·rename_i fn p
     simp only[zj,bne_iff_ne,ne_eq] at k1
     exact⟨fn,p,k1.1,k1.2⟩
    ·cases k1
   obtain⟨fn,G,Z,J⟩:=p
   have f5:(fn.name== "runtime.NumGoroutine")=false:=by simpa using Z
   have L:fn.body.isNone=false:=by cases U:fn.body<;>simp[U] at J⊢
   have x:(execOp a.eval o).run P w= .ok (.enter f (us.toList++aZ.toList.map a.eval++vs.toList).toArray) w:=by
    obtain⟨dst,op,type,pos,after,guard⟩:=o
    simp only at c
    subst c
    simp only[execOp,resolve,K,Deferred.ofValue,Sem.run_bind,Sem.run_pure,Result.andThen_ok,invoke,callFunc,run_program,G,L,f5,Bool.false_eq_true,if_false]
    simp
   unfold Oper.wp
   rw[x]
   refine Calls.mono s λe w' q=>?_
   rcases q with⟨v,rr,h',g',A,y,z,l,M⟩|⟨ch,h',g',A,y,z,l⟩
   ·subst A
    exact E _ _ _ _ _ y ⟨g',z,kv r l M V,l⟩
   ·subst A
    exact E _ _ _ _ _ y ⟨g',z,⟨l.ok,l.size,λi=>AR.le l.le _ _ (r.t i),r.d,r.n⟩,l⟩
  ·exact k.elim
 ·exact k.elim
theorem Xs{φ:Nat->Ob}{ops:Array Oper}{K:Env->List Ob->Prop}{tl:List Oper}:∀(l:List Oper),(l.all (kC N))=true->∀ {T:Env} {h:List Ob},Upto φ h.length->wpA P ops K l T h->∀ {w:World} {g:Gh} {a:Act},Rel N B w g (fill φ h) a T->
  ∀ {Q:Exit->Act->World->Prop},(∀F h' w' H,K F h'->Aft N B φ w g h F h' H w'->wpListIn Fence.wide 0 P ops Q tl H w')->wpListIn Fence.wide 0 P ops Q (l++tl) a w
 | [],_,T,h,_,k,w,g,a,r,Q,A=>A _ _ _ _ k (.refl r)
 | o::l,s,T,h,E,k,w,g,a,r,Q,A=>by
   rw[List.all_cons,zj] at s
   have i:K1 P T h o (wpA P ops K l)->o.wpIn Fence.wide 0 P a w (wpListIn Fence.wide 0 P ops Q (l++tl)) Q:=λk=>
    JG 0 E s.1 k r λF h' w' H k' q=>by
     have M:=q.len
     obtain⟨g',R,J,I⟩:=q
     exact Xs l s.2 (E.mono M) k' J λS O U a2 k2 D=>A _ _ _ _ k2 (D.trans R I)
   have f:wpA P ops K l (qK T o.dst (.v undef)) h->wpListIn Fence.wide 0 P ops Q (l++tl) (a.put o.dst undef) w:=λk=>
    Xs l s.2 E k (kv r (Good.refl r.ok r.hB) (x:= .v undef) rfl s.1) λS O U a2 k2 D=>A _ _ _ _ k2 D
   unfold wpA at k
   rw[List.cons_append]
   unfold wpListIn
   split at k
   ·rename_i n
    rw[if_pos (by simp[Region.wanted,n])]
    exact(i k)
   ·rename_i j m n
    split at k
    ·rename_i d p
     have z:yielded ops a.tmps j=match a.tmps[d]? with|some (.bool b)=>some b|_=>none:=by
      simp only[yielded,p,Option.bind_some]
      rfl
     have c:=r.t d
     rw[zt] at c
     split at k
     ·rename_i b G
      rw[G] at c
      have c:(a.tmps[d]?).getD undef= .bool b:=c
      have L:a.tmps[d]? =some (.bool b):=by
       cases e:a.tmps[d]? with
       | none=>rw[e] at c;cases c
       | some u=>rw[e] at c;exact congrArg some c
      rw[L] at z
      by_cases y:b=m
      ·rw[if_pos (by simp[Region.wanted,n,z,y])]
       exact(i (k.1 y))
      ·rw[if_neg (by simp[Region.wanted,n,z,y])]
       exact⟨λ_ _=>trivial,f (k.2 y)⟩
     ·rename_i vs G
      rw[G] at c
      have c:(a.tmps[d]?).getD undef= .tuple vs:=c
      have C:yielded ops a.tmps j=none:=by
       rw[z]
       cases e:a.tmps[d]? with
       | none=>rfl
       | some u=>rw[e] at c;have:u= .tuple vs:=c;subst this;rfl
      rw[if_neg (by simp[Region.wanted,n,C])]
      exact⟨λ_ _=>trivial,f k⟩
     ·exact k.elim
    ·exact k.elim
theorem Zs{id:Nat}(l:List Oper)(o:Oper)(i:ops.toList=l++[o])(p:o.guard=none)(c:(ops.toList.all (kC N))=true)(k:wpR P ops (VW P o Q) l T h):AWp P N B (.region id ops false) Q T h:=λφ f w g a r=>by
 rw[i,List.all_append,zj,List.all_cons,zj] at c
 refine(wpIn_wide (n:=0)).1 (wpIn_region ?_)
 rw[List.range_eq_range', <-qP,wpOpsIn_eq_wpListIn ops.toList 0 (by simp),i]
 refine Xs l c.1 f (VL _ k) r λd h' w' j k' q=>?_
 unfold wpListIn
 rw[if_pos (by simp[Region.wanted,p])]
 have b:=q.len
 obtain⟨g',u,s,m⟩:=q
 exact xX 0 (VX (Y:=λe j w'=>∃d h',Q e d h'/\Aft N B φ w g h d h' j w') (f.mono b) c.2.1 k' s λe v t z a2 x y=>⟨v,t,x,y.trans u m⟩)
end
section
variable {P:Program} {N:Nat} {B:Bs} {ops:Array Oper} {T:Env} {h:List Ob} {o:Oper} {Q:jA}
def VY(ops:Array Oper)(o:Oper):Bool:=
 JL ops 0 ops.toList && (xH o).all (λj=>decide (j<ops.size)) && (ops.toList.all λq=>q.guard.isNone) && o.guard.isNone &&
  (List.range ops.size).all λi=>(xH o).contains i || (List.range ops.size).any λj=>decide (i<j) && ((ops[j]?).map λq=>(xH q).contains i).getD false
def y2a(P:Program)(o:Oper)(Y:Exit->Act->World->Prop):Exit->Act->World->Prop
 | .normal,a,w=>o.wp P a w (Y .normal) Y
 | e,a,w=>Y e a w
theorem y3a{q:Oper}{Y:Exit->Act->World->Prop}{a:Act}{w:World}{K K':Act->World->Prop}(b:∀a w,K a w->K' a w)(k:q.wp P a w K (y2a P o Y)):q.wp P a w K' Y:=by
 unfold Oper.wp at k⊢
 generalize (execOp a.eval q).run P w=r at k⊢
 cases r with
 | ok x w'=>
   cases x with
   | value v=>exact b _ _ k
   | skip=>exact b _ _ k
   | defer d=>exact b _ _ k
   | enter f ar=>exact Calls.mono k λe g q=>by cases e<;>first|exact b _ _ q|exact q
   | row s ar=>
     intro c cs
     obtain⟨v,g,i,h⟩:=k c cs
     exact⟨v,g,b _ _ i,h⟩
   | _=>first|exact k|exact k.elim
 | halt x w'=>
   cases x<;>first|exact k|exact k.elim
theorem y4a{Y:Exit->Act->World->Prop}(B:VY ops o=true):∀(c:Nat) (listed:Array Bool),listed.size=ops.size->
  (∀(i:Nat) (q:Oper),ops[i]? =some q->listed.getD i false=true->∀j∈xH q,listed.getD j false=true)->
  ∀(a:Act) (w:World),wpAny P .any ops (y2a P o Y) c listed a w->wpAny P .any (ops.push o) Y (c+1) (listed.push false) a w:=by
 unfold VY at B
 simp only[zj,zL,decide_eq_true_eq,jg,Bool.or_eq_true,List.any_eq_true,List.contains_eq_mem,Option.isNone_iff_eq_none] at B
 obtain⟨⟨⟨⟨C,G⟩,T⟩,O⟩,D⟩:=B
 have m:(ops.push o)[ops.size]? =some o:=by simp
 have t:∀ {i:Nat} {q:Oper},i<ops.size->((ops.push o)[i]? =some q↔ops[i]? =some q):=λ{i q} hi=>by
  rw[Array.getElem?_push,if_neg (by omega)]
 have M:∀(l:Array Bool) (i:Nat),l.size=ops.size->i<ops.size->(l.push false).getD i false=l.getD i false:=λl i b hi=>by
  rw[zt,zt,Array.getElem?_push,if_neg (by omega)]
 have V:∀(l:Array Bool) (i:Nat),l.size=ops.size->i<ops.size->(l.push false).getD i true=l.getD i true:=λl i b hi=>by
  rw[zt,zt,Array.getElem?_push,if_neg (by omega)]
 have same:∀(l:Array Bool) (i:Nat),l.size=ops.size->i<ops.size->l.getD i true=l.getD i false:=λl i b hi=>by
  rw[zt,zt,zT (by omega)]
  rfl
 have dlt:∀ {i:Nat} {q:Oper},ops[i]? =some q->∀j∈xH q,j<i:=λ{i q} f j d=>by
  have:=QA ops.toList 0 C i q (by rw[qB];exact f) j d
  omega
 have all:∀l:Array Bool,l.size=ops.size->Region.ready .any ops l=[]->∀i,i<ops.size->l.getD i false=true:=by
  intro l b z i hi
  cases s:l.getD i false
  ·exfalso
   obtain⟨n,⟨N,S⟩,E⟩:=least (J:=λn=>n<ops.size/\l.getD n false=false) ⟨i,hi,s⟩
   have:n∈Region.ready .any ops l:=QB N (by rw[same l n b N];exact S) (zT N) λj d=>by
    have α:=dlt (zT N) j d
    cases R:l.getD j false
    ·have:=E j ⟨by omega,R⟩
     omega
    ·rfl
   rw[z] at this
   cases this
  ·rfl
 have done:∀l:Array Bool,l.size=ops.size->(∀(i:Nat) (q:Oper),ops[i]? =some q->l.getD i false=true->∀j∈xH q,l.getD j false=true)->(∀j∈xH o,l.getD j false=true)->∀k i,ops.size - i<=k->i<ops.size->l.getD i false=true:=by
  intro l b u U k
  induction k with
  | zero=>intro i h g;omega
  | succ k Q=>
    intro i h g
    rcases D i g with hd|⟨j,d,y,X⟩
    ·exact U i hd
    ·rw[zT d,Option.map_some,Option.getD_some,decide_eq_true_eq] at X
     exact u j ops[j] (zT d) (Q j (by omega) d) i X
 have up:∀(l:Array Bool) (i:Nat),l.size=ops.size->i∈Region.ready .any ops l->i∈Region.ready .any (ops.push o) (l.push false):=by
  intro l i b hi
  obtain⟨h,g,q,f,y⟩:=xJ hi
  refine QB (by simp;omega) (by rw[V l i b h];exact g) ((t h).2 f) λj d=>?_
  have:=dlt f j d
  rw[M l j b (by omega)]
  exact y j d
 have down:∀(l:Array Bool) (i:Nat),l.size=ops.size->i<ops.size->i∈Region.ready .any (ops.push o) (l.push false)->i∈Region.ready .any ops l:=by
  intro l i b p hi
  obtain⟨h,g,q,f,y⟩:=xJ hi
  have f:=(t p).1 f
  refine QB p (by rw[<-V l i b p];exact g) f λj d=>?_
  have:=dlt f j d
  rw[<-M l j b (by omega)]
  exact y j d
 have v:∀l:Array Bool,l.size=ops.size->(∀i,i<ops.size->l.getD i false=true)->ops.size∈Region.ready .any (ops.push o) (l.push false):=λl b s=>
  QB (by simp) (by rw[zt,Array.getElem?_push,if_pos b.symm];rfl) m λj d=>by
   have:=G j d
   rw[M l j b this]
   exact s j this
 have full:∀l:Array Bool,l.size=ops.size->(∀i,i<ops.size->l.getD i false=true)->Region.ready .any (ops.push o) ((l.push false).setIfInBounds ops.size true)=[]:=λl b s=>by
  rw[List.eq_nil_iff_forall_not_mem]
  intro i hi
  obtain⟨h,g,_⟩:=xJ hi
  rw[Array.size_push] at h
  rw[zt,Array.getElem?_setIfInBounds] at g
  split at g
  ·rw[if_pos (by simp;omega)] at g
   cases g
  ·have:=s i (by omega)
   rw[<-zt,V l i b (by omega),same l i b (by omega),this] at g
   cases g
 have fin:∀(c:Nat) (l:Array Bool),l.size=ops.size->(∀i,i<ops.size->l.getD i false=true)->∀(a:Act) (w:World),y2a P o Y .normal a w->wpOp P (ops.push o) Y ops.size (wpAny P .any (ops.push o) Y c ((l.push false).setIfInBounds ops.size true)) a w:=by
  intro c l b s a w k
  unfold wpOp
  rw[m]
  simp only
  rw[if_pos (by simp[Region.wanted,O])]
  refine .inl (Oper.wp_mono (λa w q=>?_) k)
  have Z:=full l b s
  cases c with
  | zero=>exact⟨Z,q⟩
  | succ c=>exact⟨λ_=>q,λi hi=>by rw[Z] at hi;cases hi⟩
 have F:∀(l:Array Bool) (i:Nat),l.size=ops.size->i<ops.size->(l.push false).setIfInBounds i true=(l.setIfInBounds i true).push false:=λl i b hi=>by
  refine Array.ext (by simp) λj h g=>?_
  have y:j<ops.size+1:=by simpa [b] using g
  rw[Array.getElem_setIfInBounds (by simp;omega),Array.getElem_push,Array.getElem_push]
  by_cases e:i=j
  ·subst e
   simp[b,hi]
  ·rw[if_neg e]
   split
   ·rename_i q
    rw[dif_pos (by simpa using q),Array.getElem_setIfInBounds (by omega),if_neg e]
   ·rename_i q
    rw[dif_neg (by simpa using q)]
 intro c
 induction c with
 | zero=>
   intro l b u a w ⟨k1,k2⟩
   have s:=all l b k1
   refine⟨λz=>?_,λi hi=>?_⟩
   ·have:=v l b s
    rw[z] at this
    cases this
   ·have p:=(xJ hi).1
    rw[Array.size_push] at p
    rcases Nat.lt_or_ge i ops.size with h|h
    ·have:=down l i b h hi
     rw[k1] at this
     cases this
    ·have:i=ops.size:=by omega
     subst this
     exact fin 0 l b s a w k2
 | succ c Q=>
   intro l b u a w ⟨k1,k2⟩
   refine⟨λz=>?_,λi hi=>?_⟩
   ·exfalso
    cases H:Region.ready .any ops l with
    | nil=>
      have:=v l b (all l b H)
      rw[z] at this
      cases this
    | cons i r=>
      have:=up l i b (by rw[H];exact .head _)
      rw[z] at this
      cases this
   ·have p:=(xJ hi).1
    rw[Array.size_push] at p
    rcases Nat.lt_or_ge i ops.size with h|h
    ·have hid:=down l i b h hi
     obtain⟨_,g,q,f,y⟩:=xJ hid
     have k3:=k2 i hid
     have W:q.guard=none:=T q (by rw[<-qB] at f;exact qn f)
     unfold wpOp at k3⊢
     rw[f] at k3
     rw[(t h).2 f]
     simp only at k3⊢
     rw[if_pos (by simp[Region.wanted,W])] at k3⊢
     have I:∀(K:Nat) (L:Oper),ops[K]? =some L->(l.setIfInBounds i true).getD K false=true->∀j∈xH L,(l.setIfInBounds i true).getD j false=true:=by
      intro K L x A j d
      rw[qHa (by omega)] at A⊢
      split
      ·rfl
      ·split at A
       ·rename_i e1
        subst e1
        rw[f] at x
        injection x with x
        subst x
        exact y j d
       ·exact u K L x A j d
     rcases k3 with k3|⟨k3,a1,w1,k4⟩
     ·refine .inl (y3a (λa' w' k=>?_) k3)
      rw[F l i b h]
      exact Q _ (by simp[b]) I a' w' k
     ·exact .inr ⟨k3,a1,w1,k4⟩
    ·have:i=ops.size:=by omega
     subst this
     obtain⟨_,_,q,f,y⟩:=xJ hi
     rw[m] at f
     injection f with f
     subst f
     have s:∀i,i<ops.size->l.getD i false=true:=λi hi=>done l b u (λj d=>by
      have:=y j d
      rw[M l j b (G j d)] at this
      exact this) ops.size i (by omega) hi
     have z:Region.ready .any ops l=[]:=by
      rw[List.eq_nil_iff_forall_not_mem]
      intro i hi
      obtain⟨h,g,_⟩:=xJ hi
      rw[same l i b h,s i h] at g
      cases g
     exact fin (c+1) l b s a w (k1 z)
theorem VZ{i:Nat}(b:∀(i:Nat) (q:Oper),ops[i]? =some q->q.guard=none)(hi:i<ops.size):vI P (ops.push o) T h i=vI P ops T h i:=by
 have e:(ops.push o)[i]? =ops[i]? :=by rw[Array.getElem?_push,if_neg (by omega)]
 have a:=b i _ (zT hi)
 unfold vI
 rw[e,zT hi]
 simp only[Zj,a]
theorem Ya(a:∀(i:Nat) (q:Oper),ops[i]? =some q->q.guard=none):∀ {l:List Nat},(∀i∈l,i<ops.size)->(jk P (ops.push o) T h l↔jk P ops T h l):=λ{l} b=>by
 rw[jF,jF]
 exact⟨λk i hi=>by rw[<-VZ (o:=o) a (b i hi)];exact k i hi,λk i hi=>by rw[VZ a (b i hi)];exact k i hi⟩
def zQa(ops:Array Oper)(a:List Ent):Bool:=a.all λq=>decide (q.1<ops.size) && q.2.2.all λi=>decide (i<ops.size)
theorem qTa{b:Nat}{K:Env->List Ob->Prop}(c:∀(i:Nat) (q:Oper),ops[i]? =some q->q.guard=none):∀(a:List Ent),zQa ops a=true->∀ {T:Env} {h:List Ob},wpQ P (ops.push o) b K a T h->wpQ P ops b K a T h
 | [],_,_,_,k=>k
 | q::r,l,T,h,k=>by
   unfold zQa at l
   rw[List.all_cons,zj,zj,decide_eq_true_eq,zL] at l
   obtain⟨⟨n,d⟩,p⟩:=l
   have d:∀i∈q.2.2,i<ops.size:=λi hi=>by simpa using d i hi
   have m:∀ {T:Env} {h:List Ob},wpQ P (ops.push o) b K r T h->wpQ P ops b K r T h:=λk=>qTa c r p k
   have e:(ops.push o)[q.1]? =ops[q.1]? :=by rw[Array.getElem?_push,if_neg (by omega)]
   unfold wpQ at k⊢
   rw[e] at k
   rw[zT n] at k⊢
   have f:=c q.1 _ (zT n)
   have k:Js P (ops.push o) b q (wpQ P (ops.push o) b K r) T h ops[q.1]:=k
   show Js P ops b q (wpQ P ops b K r) T h ops[q.1]
   unfold Js at k⊢
   rw[f] at k⊢
   simp only at k⊢
   unfold X4 at k⊢
   split
   ·rename_i g
    rw[if_pos g] at k
    unfold VK at k⊢
    split
    ·rename_i ob mk j
     rw[j] at k
     exact⟨k.1,m k.2⟩
    ·rename_i j
     rw[j] at k
     exact k
   ·rename_i g
    rw[if_neg g] at k
    exact wea (λT h ⟨s,t⟩=>⟨(Ya c d).1 s,m t⟩) k
theorem xPa{id:Nat}(Z:P.follows .mixedOrders=true)(L:List Ob)(k:Nat)(c:List Ent)(hL:L=List.replicate k .res)(M:(ops.push o).toList.all (kC N)=true)(j:Qy ops k c=true)(b:VY ops o=true)(p:zQa ops c=true)
  (kq:wpQ P (ops.push o) h.length (VW P o Q) c T (h++L)):AWp P N B (.region id (ops.push o) true) Q T h:=λφ H w g a r=>by
 have J:∀(i:Nat) (q:Oper),ops[i]? =some q->q.guard=none:=by
  intro i q l
  unfold VY at b
  simp only[zj,zL,Option.isNone_iff_eq_none] at b
  exact b.1.1.2 q (by rw[<-qB] at l;exact qn l)
 have kk:=kQa _ (hL▸qTa J c p kq)
 rw[Array.toList_push,List.all_append,zj,List.all_cons,zj] at M
 simp only[Qy,zj,zL,decide_eq_true_eq,List.contains_eq_mem,jg] at j
 obtain⟨⟨⟨⟨⟨o1,W⟩,S⟩,o4⟩,V⟩,z⟩:=j
 have s:=Good.drew (g:=g) r.ok r.hB
 have G:=Q1 s.size k s.ok
 have A:=s.trans G
 have F:fill φ (h++List.replicate k .res)=fill φ h++List.replicate k .res:=jO H
 rw[<-F] at A
 have r':Rel N B w.drew g (fill φ (h++List.replicate k .res)) a T:=⟨A.ok,A.size,λi=>AR.le A.le _ _ (r.t i),r.d,r.n⟩
 refine wp_region_any Z ?_
 have R:Rest ops (Array.replicate ops.size false) c:=by
  refine⟨by simp,V,λi hi=>?_,wG c o1,λq l=>⟨k,S q l⟩,λi o E y=>?_⟩
  ·simp[zt,hi]
   have:=o4 i hi
   simpa using this
  ·have hi:i<ops.size:=by
    rcases Nat.lt_or_ge i ops.size with h|h
    ·exact h
    ·rw[Array.getElem?_eq_none h] at E;cases E
   simp[zt,hi] at y
 have x:Array.replicate (ops.push o).size false=(Array.replicate ops.size false).push false:=by
  rw[Array.size_push, <-Array.replicate_succ]
 rw[Array.size_push, <-Array.size_push (xs:=ops) (v:=o),x,Array.size_push]
 refine y4a b ops.size (Array.replicate ops.size false) (by simp) (λi q l y=>?_) _ _ ?_
 ·exfalso
  rw[zt,Array.getElem?_replicate] at y
  split at y<;>cases y
 refine X0 (K:=VW P o Q) H W M.1 ops.size _ c z R (by simp) (λq l o E U=>?_) kk r' λI h' w' g' O k' rr r2 q=>?_
 ·obtain⟨o',f,_,_,hs,_⟩:=wN (S q l)
  rw[E] at f
  injection f with f
  subst f
  have:=hs U
  rw[zI (by omega),Nat.add_sub_cancel_left,List.getElem?_replicate,if_pos this]
 ·have u:ResK h h':=λi hi=>by
   have C:=(zd.1 hi).1
   exact rr i C (by rw[zC C];exact hi)
  have D:=A.trans q
  have m:h.length<=h'.length:=Qr D
  exact VX (Y:=λe O w'=>∃I h',Q e I h'/\Aft N B φ w g h I h' O w') (H.mono m) M.2.1 k' r2 λe T2 h2 w2 a2 X z2=>⟨T2,h2,X,z2.trans u D⟩
end
theorem xTa{o:Option Ob}{st:Nat}{rows:List (List AV)}(a:YH o st=some rows):∃ty e,o=some (.row ty e rows st):=by
 unfold YH at a
 split at a
 ·split at a
  ·rename_i b
   injection a with a
   subst b a
   exact⟨_,_,rfl⟩
  ·cases a
 ·cases a
def q2a:AV->Option Nat
 | .tl id _=>some id
 | .vw a _ _ _=>q2a a
 | _=>none
theorem kWa{n:Nat}{L:List Ob}:∀(r:AV) {rows:List (List AV)},zZ (List.replicate n .gone++L) r=some rows->∀id,q2a r=some id->n<=id
 | .tl id st,rows,h,i,hi=>by
   injection hi with hi
   subst hi
   apply Classical.byContradiction
   intro c
   have:(List.replicate n Ob.gone++L)[id]? =some .gone:=by
    rw[zC (by rw[qY];omega),List.getElem?_replicate,if_pos (by omega)]
   rw[qS,this] at h
   cases h
 | .vw a e i k,rows,h,id,hi=>by
   rw[kH] at h
   cases b:zZ (List.replicate n .gone++L) a with
   | none=>rw[b] at h;cases h
   | some ys=>exact kWa a b id hi
 | .v _,_,_,_,hi | .sl _ _,_,_,_,hi | .em,_,_,_,hi | .ptr _ _,_,_,_,hi | .ep _ _ _ _,_,_,_,hi | .mp _,_,_,_,hi | .ag _,_,_,_,hi | .tup _,_,_,_,hi | .fn _ _ _,_,_,_,hi | .bad,_,_,_,hi=>by cases hi
section
variable {B:Nat} {w:World} {g:Gh} {h L:List Ob}
theorem Zia{b:Nat}(k:kept g h b):kept g (h++L) b:=by
 obtain⟨i,o,c,a⟩:=k
 exact⟨i,o,zf c,a⟩
theorem V8(J:HOk B w g (h++L)):∀(r:AV) {A:Addr} {n k:Nat} {rows:List (List AV)} {e:Nat},AR (ctx w g (h++L)) r (.slice (some A) n k)->zZ (h++L) r=some rows->eOf (h++L) r=some e->0<e->rows≠[]->(∀id,q2a r=some id->h.length<=id)->¬ kept g h A.block
 | .sl t xs,A,n,k,rows,e,l,b,f,h0,j,d=>by
   obtain⟨Q,k',y,S,G⟩:=l
   injection y with y o N
   subst y
   injection b with b
   subst b
   injection f with f
   subst f
   cases xs with
   | nil=>exact absurd rfl j
   | cons x xs=>
     obtain⟨⟨P,z⟩,_⟩:=G
     cases x with
     | nil=>simp at P;omega
     | cons c x=>
       obtain⟨⟨M,u,E,R,_⟩,_⟩:=z
       injection E with E
       subst E
       intro T
       refine R.1 ?_
       have:(A.add (0*t)).block=A.block:=by unfold Addr.add;split<;>rfl
       rw[this]
       exact Zia T
 | .tl id st,A,n,k,rows,e,l,b,f,h0,j,d=>by
   rw[qS] at b
   obtain⟨ty,t,I⟩:=xTa b
   have z:=Jz l I
   rintro ⟨i,p,K,V⟩
   have W:=kX K
   have hid:=d id rfl
   refine J.apart i id p _ A.block (by omega) (zf K) I V ?_
   show(g.cur id).ownBlock=_
   rw[<-z];rfl
 | .vw a t i m,A,n,k,rows,e,l,b,f,h0,j,d=>by
   obtain⟨A0,m0,cp,Q,k',y,S,G,o,N,_⟩:=l
   rw[kH] at b
   rw[ZP] at f
   cases F:zZ (h++L) a with
   | none=>rw[F] at b;cases b
   | some ys=>
     rw[F] at b
     simp only[Option.bind_some] at b
     split at b
     ·rename_i D
      injection b with b
      cases s:eOf (h++L) a with
      | none=>rw[s] at f;cases f
      | some e0=>
        have H:0<m:=by
         apply Classical.byContradiction
         intro H
         have:m=0:=by omega
         subst this
         rw[List.take_zero] at b
         exact j b.symm
        have C:ys≠[]:=by
         intro Z
         subst Z
         simp at D
         omega
        have Y:e0=t/\t=e:=by
         rw[s] at f
         simp only[Option.bind_some] at f
         split at f
         ·rename_i q;injection f with f;exact⟨q,f⟩
         ·cases f
        injection o with o h6 h7
        subst h6
        obtain⟨M,U,O⟩:=N H
        subst U
        have X:=V8 J a y F s (by omega) C d
        rw[O] at o
        injection o with o
        have:A.block=M.block:=by rw[o];unfold Addr.add;split<;>rfl
        rw[this]
        exact X
     ·cases b
 | .v x,A,n,k,rows,e,l,b,f,h0,j,d=>by
   have l:Value.slice (some A) n k=x:=l
   subst l
   cases b
 | .em,_,_,_,_,_,_,b,_,_,j,_=>by injection b with b;exact absurd b.symm j
 | .ptr _ _,_,_,_,_,_,_,b,_,_,_,_ | .ep _ _ _ _,_,_,_,_,_,_,b,_,_,_,_ | .mp _,_,_,_,_,_,_,b,_,_,_,_ | .ag _,_,_,_,_,_,_,b,_,_,_,_ | .tup _,_,_,_,_,_,_,b,_,_,_,_ | .fn _ _ _,_,_,_,_,_,_,b,_,_,_,_ | .bad,_,_,_,_,_,_,b,_,_,_,_=>by cases b
theorem JM(J:HOk B w g (h++L)){r:AV}{u:Value}{rows:List (List AV)}{e:Nat}(C:0<e)(I:AR (ctx w g (h++L)) r u)(F:SlOf (h++L) r e rows)(l:∀id,q2a r=some id->h.length<=id)(O:qZ h.length rows=true):AR (ctx w g h) (.sl e rows) u:=by
 obtain⟨A,k,v,H,P,R⟩:=vG J r I F.rows
 by_cases s:rows=[]
 ·subst s
  exact⟨A,k,v,H,True.intro⟩
 have o:=F.ee s
 have q:=P e o
 refine⟨A,k,v,H,?_⟩
 have Q:∃a0,A=some a0:=by
  cases rows with
  | nil=>exact absurd rfl s
  | cons x xs=>
    have b:=q.len x (by simp)
    cases x with
    | nil=>simp at b;omega
    | cons c x=>
      obtain⟨K,D,n,_⟩:=q.cell 0 0 (c::x) c rfl rfl
      exact⟨K,n⟩
 obtain⟨a0,rfl⟩:=Q
 subst v
 have E:=V8 J r I F.rows o C s l
 have d:=kG w g h L
 have cells:∀(i:Nat) (x:List AV),rows[i]? =some x->qJ h.length x=true->∀(y:List AV) (k0:Nat),(∀j a,y[j]? =some a->x[k0+j]? =some a)->qJ h.length y=true->ACells (ctx w g h) (some a0) (i*e+k0) y:=by
  intro i x m _ y
  induction y with
  | nil=>intro _ _ _;trivial
  | cons c y t=>
    intro k0 p b
    have b:c.lt h.length=true/\qJ h.length y=true:=by simpa [qJ] using b
    have G:=p 0 c rfl
    rw[Nat.add_zero] at G
    obtain⟨K,D,n,N,M⟩:=q.cell i k0 x c m G
    injection n with n
    subst n
    refine⟨⟨a0,D,rfl,⟨?_,N⟩,AR.less d c D b.1 M⟩,?_⟩
    ·have:(a0.add (i*e+k0)).block=a0.block:=by unfold Addr.add;split<;>rfl
     rw[this]
     exact E
    ·have:=t (k0+1) (λj a f=>by
      have:=p (j+1) a f
      rw[show k0+(j+1)=k0+1+j by omega] at this
      exact this) b.2
     rw[show i*e+k0+1=i*e+(k0+1) by omega]
     exact this
 have all:∀(ys:List (List AV)) (i:Nat),(∀j x,ys[j]? =some x->rows[i+j]? =some x)->qZ h.length ys=true->ARows (ctx w g h) (some a0) e i ys:=by
  intro ys
  induction ys with
  | nil=>intro _ _ _;trivial
  | cons x ys t=>
    intro i p b
    have b:qJ h.length x=true/\qZ h.length ys=true:=by simpa [qZ] using b
    have m:=p 0 x rfl
    rw[Nat.add_zero] at m
    refine⟨⟨q.len x (qn m),?_⟩,t (i+1) (λj z f=>by
     have:=p (j+1) z f
     rw[show i+(j+1)=i+1+j by omega] at this
     exact this) b.2⟩
    have:=cells i x m b.1 x 0 (λj a f=>by rw[Nat.zero_add];exact f) b.1
    simpa using this
 exact all rows 0 (λj x f=>by rw[Nat.zero_add];exact f) O
end
theorem New.root{h L:List Ob}{e:Nat}{x:AV}{rows:List (List AV)}(k:New h e x rows L):∀id,q2a x=some id->h.length<=id:=
 kWa (L:=L) x (k (List.replicate h.length .gone) (by simp)).rows
variable {P:Program} {f:FuncId} {ar:List AV} {h:List Ob}
theorem ve{e:Nat}{rows:List (List AV)}(n:0<e)(o:qZ h.length rows=true)(c:ACalls P f ar h λr h'=>∃L,h'=h++L/\NoRes L/\New h e r rows L):ACalls P f ar h λr h'=>r= .sl e rows/\h'=h:=by
 refine⟨c.1,⟨_,_,⟨rfl,rfl⟩,.refl⟩,λφ j B w g vs l hB b=>?_⟩
 refine(c.2.2 φ j B w g vs l hB b).mono λq w' ⟨v,r,h',g',p,⟨L,m,_,i⟩,_,d,k⟩=>?_
 subst m
 rw[jO j] at d k
 have a:(fill φ h).length=h.length:=qT
 refine⟨v,_,h,g',p,⟨rfl,rfl⟩,.refl,d.drop rfl (by have:=l.ids;exact this),?_⟩
 refine JM d.ok n k (i _ a) (λid hid=>by rw[a];exact i.root id hid) (by rw[a];exact o)
theorem q3a{e d:Nat}{rows b:List (List AV)}(q:0<e)(D:0<d)(C:qZ h.length rows=true)(l:qZ h.length b=true)(c:ACalls P f ar h λr h'=>∃L y z,h'=h++L/\NoRes L/\r= .tup [y,z]/\New h e y rows L/\New h d z b L):ACalls P f ar h λr h'=>r= .tup [.sl e rows,.sl d b]/\h'=h:=by
 refine⟨c.1,⟨_,_,⟨rfl,rfl⟩,.refl⟩,λφ m B w g vs o hB i=>?_⟩
 refine(c.2.2 φ m B w g vs o hB i).mono λH w' ⟨v,r,h',g',u,⟨L,y,z,s,_,E,n1,n2⟩,_,j,n⟩=>?_
 subst s E
 rw[jO m] at j n
 have a:(fill φ h).length=h.length:=qT
 obtain⟨us,rfl,t,G,x,a1,A,F,p,a2,k⟩:=n
 have k:F=[]:=k
 subst k p
 refine⟨_,_,h,g',u,⟨rfl,rfl⟩,.refl,j.drop rfl (by have:=o.ids;exact this),us,rfl,?_⟩
 rw[x]
 exact⟨t,_,rfl,JM j.ok q a1 (n1 _ a) (λid hid=>by rw[a];exact n1.root id hid) (by rw[a];exact C),A,_,rfl,JM j.ok D a2 (n2 _ a) (λid hid=>by rw[a];exact n2.root id hid) (by rw[a];exact l),rfl⟩
def WeakV(r a:AV):Prop:=∀(c:Ctx) (v:Value),AR c r v->AR c a v
theorem WeakV.refl(r:AV):WeakV r r:=λ_ _ h=>h
theorem WeakV.nil(e:Nat):WeakV (.v (.slice none 0 0)) (.sl e []):=λ_ v h=>by
 have h:v= .slice none 0 0:=h
 subst h
 exact⟨none,0,rfl,zo _,True.intro⟩
theorem WeakV.two{a f b d:AV}(j:WeakV a f)(i:WeakV b d):WeakV (.tup [a,b]) (.tup [f,d]):=λc v ⟨vs,e,x,r,l,a1,y,k,g,a2,h⟩=>⟨vs,e,x,r,l,j c x a1,y,k,g,i c y a2,h⟩
theorem QH{R i:AV->List Ob->Prop}(c:ACalls P f ar h R)(e:∀r h',R r h'->∃b,i b h'/\WeakV r b):ACalls P f ar h i:=by
 refine⟨c.1,?_,λφ m B w g vs s hB a=>?_⟩
 ·obtain⟨r,h',n,j⟩:=c.2.1
  obtain⟨b,d,_⟩:=e r h' n
  exact⟨b,h',d,j⟩
 ·refine(c.2.2 φ m B w g vs s hB a).mono λu w' ⟨v,r,h',g',q,k,o,t,p⟩=>?_
  obtain⟨b,d,l⟩:=e r h' k
  exact⟨v,b,h',g',q,d,o,t,l _ _ p⟩
theorem JN{e:Nat}{rows:List (List AV)}(c:ACalls P f ar h λr h'=>(r= .sl e rows∨r= .v (.slice none 0 0)/\rows=[])/\h'=h):ACalls P f ar h λr h'=>r= .sl e rows/\h'=h:=
 QH c λr h' ⟨q,a⟩=>by
  rcases q with rfl|⟨rfl,rfl⟩
  ·exact⟨_,⟨rfl,a⟩,.refl _⟩
  ·exact⟨_,⟨rfl,a⟩,.nil e⟩
theorem XD{rs:List ResultVar}{T:Env}{h0 h':List Ob}{ty e:Nat}{x:AV}{rows:List (List AV)}(c:Zi P T h' rs=some x)(a:Pre h0 h')(b:OwnS h0 h' ty e x rows):qxa P rs h0 (λr h''=>∃L,h''=h0++L/\NoRes L/\New h0 e r rows L) .ret T h':=by
 obtain⟨L,rfl,d⟩:=a
 exact⟨x,c,.inl ⟨L,rfl,d,b.new (zo _)⟩⟩
end Go.Proofs.YtigdlmpjijhpaaaGreat.Ax
namespace Go.Proofs.YtigdlmpjijhpaaaGreat.Ax
open Go Go.RowKit
structure LIn (F:List (Nat × Ob)) (h0 h:List Ob) (i bty ty e:Nat) (rows:List (List AV)):Prop where
 pre:Pre h0 h
 le:h0.length<=i
 kept:∀z∈F,z.1≠i/\(∃t cs,z.2= .box t cs)/\h[z.1]? =some z.2
 at_:∃x,h[i]? =some (.box bty [x])/\OwnS h0 h ty e x rows
variable {F:List (Nat × Ob)} {h0 h:List Ob} {i bty ty e:Nat} {rows rows':List (List AV)}
theorem LIn.app(k:LIn F h0 h i bty ty e rows){M:List Ob}(b:NoRes M):LIn F h0 (h++M) i bty ty e rows:=by
 obtain⟨k1,k2,k3,x,k4,k5⟩:=k
 exact⟨k1.app b,k2,λz a=>⟨(k3 z a).1,(k3 z a).2.1,zf (k3 z a).2.2⟩,x,zf k4,k5.app M⟩
theorem LIn.lt(k:LIn F h0 h i bty ty e rows):i<h.length:=by
 obtain⟨x,k4,_⟩:=k.at_
 exact(zd.1 k4).1
theorem LIn.push_nil(k:LIn F h0 h i bty ty e rows){M:List Ob}(b:NoRes M){id:Nat}(hid:h.length<=id)(c:(h++M)[id]? =some (.row ty e rows' 0)):LIn F h0 ((h++M).set i (.box bty [.tl id 0])) i bty ty e rows':=by
 have hi:=k.lt
 have d:=k.pre.len
 have k':=k.app b
 refine⟨k'.pre.set k.le rfl,k.le,λz a=>⟨(k.kept z a).1,(k.kept z a).2.1,?_⟩,.tl id 0,?_,.inr ⟨id,0,by omega,rfl,?_⟩⟩
 ·rw[zc (Ne.symm (k.kept z a).1)];exact(k'.kept z a).2.2
 ·rw[zm (by rw[ze];omega)]
 ·rw[zc (by omega)];exact c
theorem LIn.push_own(k:LIn F h0 h i bty ty e rows){M:List Ob}(l:NoRes M){id st:Nat}(hid:h0.length<=id)(a:h[id]? =some (.row ty e rows st)):LIn F h0 (((h++M).set id (.row ty e rows' (st+1))).set i (.box bty [.tl id (st+1)])) i bty ty e rows':=by
 have hi:=k.lt
 have o:=k.pre.len
 have k':=k.app l
 obtain⟨x,n,_⟩:=k.at_
 have c:id≠i:=λq=>by rw[q,n] at a;cases a
 have m:=(zd.1 a).1
 refine⟨(k'.pre.set hid rfl).set k.le rfl,k.le,λz b=>⟨(k.kept z b).1,(k.kept z b).2.1,?_⟩,.tl id (st+1),?_,.inr ⟨id,st+1,hid,rfl,?_⟩⟩
 ·obtain⟨j,⟨t,cs,g⟩,f⟩:=k.kept z b
  have d:id≠z.1:=λq=>by rw[q,f,g] at a;cases a
  rw[zc (Ne.symm j),zc d]
  exact(k'.kept z b).2.2
 ·rw[zm (by rw[zP,ze];omega)]
 ·rw[zc (Ne.symm c),zm (by rw[ze];omega)]
theorem LIn.any(k:LIn F h0 h i bty ty e rows)(rows':List (List AV)):∃h',LIn F h0 h' i bty ty e rows'/\ResK h h':=by
 have q:=k.push_nil (M:=[.row ty e rows' 0]) (zF rfl) (id:=h.length) (zo _) (by rw[zM rfl];rfl)
 exact⟨_,q,k.pre.resK q.pre⟩
theorem LIn.keep(k:LIn F h0 h i bty ty e rows){z:Nat × Ob}(a:z∈F):h[z.1]? =some z.2:=(k.kept z a).2.2
end Go.Proofs.YtigdlmpjijhpaaaGreat.Ax
namespace Go.Proofs.YtigdlmpjijhpaaaGreat.Ax
open Go Go.RowKit
section
variable {P:Program}
theorem q4a{g:Operand}{j:Array Tmp}{assign body:Code}{Q:Exit->Act->World->Prop}{a:Act}{w:World}{n c:Nat}{i:Array Value}
  (m:a.eval g= .func (.func c) #[] i) (p:∀args w,(callFunc c args).run P w= .ok (.enter c args) w)
  (h:∀(fn:FuncId) (rec:LoopState->Option Code->Loop),rec=(λst k=>{ state:=st,pending:=k,fn,tmps:=a.tmps,params:=j,assign,body,defers:=w.heap.size })->
   CallsIn Fence.wide (n - 1) P c (#[.func (.yield (w.heap.size+1)) #[] #[]]++i) ((w.alloc (.deferred (some []))).alloc (.loop (rec .ready none))) λe l=>(∃v,e= .returned v)/\
    l.heap[w.heap.size+1]? =some (.loop (rec .ready none))/\Q .normal { a with defers:={ target:= .collected w.heap.size,args:= #[] }::a.defers } (l.putObj (w.heap.size+1) (.loop (rec .exhausted none)))):
  (Code.rangeFunc g j assign body).wpIn Fence.wide n P Q a w:=by
 refine wpIn_rangeFunc ?_
 intro fn r
 obtain⟨rec,b⟩:∃rec:LoopState->Option Code->Loop,rec=λst k=>{ state:=st,pending:=k,fn,tmps:=a.tmps,params:=j,assign,body,defers:=w.heap.size }:=⟨_,rfl⟩
 obtain⟨d,f⟩:∃d,(w.alloc (.deferred (some []))).alloc (.loop (rec .ready none))=d:=⟨_,rfl⟩
 have h:=h fn rec b
 rw[f] at h
 refine⟨w.heap.size+1,[{ target:= .collected w.heap.size,args:= #[] }],d,{ target:= .fn (.func c) i,args:= #[.func (.yield (w.heap.size+1)) #[] #[]] },d,c,
  #[.func (.yield (w.heap.size+1)) #[] #[]]++i,d,?_,?_,?_,?_,λh=>(by cases h),?_⟩
 ·rw[<-f,b];exact run_enterLoop_outer _ _ _ _ _
 ·simp only[resolve,m]
  simp[go_sem]
 ·intro s _;exact trivial
 ·simp[invoke,go_sem,p]
 ·refine h.mono ?_
  rintro e t ⟨⟨v,rfl⟩,o,q⟩
  exact⟨none,_,by have:=run_endLoop (P:=P) o (by rw[b];simp);rw[b] at this ⊢;exact this,q⟩
end
def KeepB(n:Nat)(h h':List Ob):Prop:=∀(j:Nat) (ty:TypeId) (cs:List AV),n<=j->h[j]? =some (.box ty cs)->h'[j]? =some (.box ty cs)
theorem KeepB.trans{n:Nat}{a b c:List Ob}(h:KeepB n a b)(k:KeepB n b c):KeepB n a c:=λj ty cs d q=>k j ty cs d (h j ty cs d q)
theorem KeepB.raw{n i:Nat}{a:List Ob}{l o ks us o'}(hi:a[i]? =some (.raw l o ks us)):KeepB n a (a.set i (.raw l o' ks us)):=λj ty cs _ q=>by
 have:i≠j:=λe=>by rw[e,q] at hi;cases hi
 rw[zc this];exact q
theorem KeepB.mono{n m:Nat}{a b:List Ob}(h:KeepB n a b)(c:n<=m):KeepB m a b:=λj ty cs d q=>h j ty cs (by omega) q
def Kqa(P:Program)(c:FuncId)(b:List AV)(Rd:List Ob->Prop)(xs:List AV):Prop:=
 ∀ (l:Nat) (K:Nat->List Ob->Prop) (a:List Ob),K 0 a->(∀i h' M,NoRes M->K i h'->K i (h'++M))->(∀i h',K i h'->Rd h')->(∃h',K xs.length h'/\ResK a h')->(∀i h',K i h'->a.length<=h'.length)->
   (∀i x h',xs[i]? =some x->K i h'->Vz P l [x] h' λh''=>K (i+1) h''/\KeepB a.length h' h'')->ACalls P c (.v (.func (.yield l) #[] #[])::b) a λ_ h'=>K xs.length h'
def RawK(h h':List Ob):Prop:=∀(j l:Nat) (o:Obj) (ks:List AV) (us:List Value),h[j]? =some (.raw l o ks us)->h'[j]? =some (.raw l o ks us)
def Zja(N:Nat)(T:Env):Env:=λi=>if i<N then T i else .bad
theorem Zka(N:Nat)(T:Env)(i:Nat):Zja N T i=if i<N then T i else .bad:=id rfl
section
variable {P:Program} {N b:Nat} {T:Env} {h:List Ob} {ds:List Deferred}
theorem wqa{T:Env}{c:Ctx}{a:Act}(g:wK c T a):∀(n:Nat) (us:List Value),us.length=n->(∀i,i<n->us[i]? =some (a.tmps.getD i undef))->ARs c ((List.range n).map T) us:=λn us j h=>
 j7a (by simp[j]) λk x b=>by
  rw[zr] at b
  cases e:(List.range n)[k]? with
  | none=>rw[e] at b;cases b
  | some i=>
    rw[e] at b
    injection b with b
    obtain⟨f,d⟩:=zd.1 e
    rw[List.getElem_range] at d
    subst d b
    rw[List.length_range] at f
    exact⟨_,h _ f,g k⟩
theorem wra{T:Env}{c:Ctx}:∀ {n:Nat} {us:List Value},ARs c ((List.range n).map T) us->us.length=n/\∀i,i<n->∃u,us[i]? =some u/\AR c (T i) u:=λ{n us} k=>by
 have b:=kR k
 rw[zb,List.length_range] at b
 refine⟨b.symm,λi hi=>?_⟩
 obtain⟨u,d,a⟩:=vv k i (by simpa using hi)
 refine⟨u,d,?_⟩
 have:nth ((List.range n).map T) i=T i:=QY (by rw[zr,List.getElem?_range hi];rfl)
 rw[this] at a
 exact a
theorem Zla{b:FuncId}(k1:JF P b=true):∀args w,(callFunc b args).run P w= .ok (.enter b args) w:=λargs w=>by
 have a:∃fn,P.funcs[b]? =some fn/\fn.name≠ "runtime.NumGoroutine" /\fn.body.isSome=true:=by
  unfold JF at k1
  split at k1
  ·rename_i fn a
   simp only[zj,bne_iff_ne,ne_eq] at k1
   exact⟨fn,a,k1.1,k1.2⟩
  ·cases k1
 obtain⟨fn,c,f,e⟩:=a
 have f5:(fn.name== "runtime.NumGoroutine")=false:=by simpa using f
 have d:fn.body.isNone=false:=by cases g:fn.body<;>simp[g] at e⊢
 simp only[callFunc,Sem.run_bind,run_program,c,d,f5,Bool.false_eq_true,if_false,Result.andThen_ok,Sem.run_pure]
theorem wsa{n m l:Nat}{f:FuncId}{tmps:Array Value}{assign body:Code}{w:World}{R:Ending->World->Prop}(k:RoundIn Fence.wide n P l f tmps assign body w R):RoundIn Fence.wide m P l f tmps assign body w R:=
 ⟨k.1,λc cs _=>k.2 c cs (room_wide _)⟩
theorem V9{p:Nat}{g:Operand}{assign body:Code}{gf:FuncId}{lb:List AV}{xs:List AV}(hp:p<N)(ν:JF P gf=true)(hg:ev T g= .fn (.func gf) [] lb){Rd:List Ob->Prop}(hseq:Kqa P gf lb Rd xs)
  (K:Nat->List Ob->Prop) (O:Nat->AV->Env->List Ob->Prop)
  (hK0:∀M,NoRes M->K 0 (h++M)) (υ:∀i h' M,NoRes M->K i h'->K i (h'++M)) (hrd:∀i h',K i h'->Rd h') (hKex:∀M,NoRes M->∃h',K xs.length h'/\ResK (h++M) h'/\RawK (h++M) h')
  (S:∀i h' j l o ks us o',h.length<=j->K i h'->h'[j]? =some (.raw l o ks us)->K i (h'.set j (.raw l o' ks us)))
  (β:∀i x I c j l o ks us o',h.length<=j->O i x I c->c[j]? =some (.raw l o ks us)->O i x I (c.set j (.raw l o' ks us)))
  (ρ:∀b l i x h',xs[i]? =some x->K i h'->RWp P N b l assign (λe I c=>e= .normal/\O i x I c/\RawK h' c/\KeepB h.length h' c) (upd (Zja N T) p x) h')
  (η:∀b l i x I c,xs[i]? =some x->O i x I c->RWp P N b l body (λe _ h3=>e= .normal/\K (i+1) h3/\RawK c h3/\KeepB h.length c h3) I c):
  Jn P N b ds (.rangeFunc g #[p] assign body) (λe ds' T' h'=>e= .normal/\T'=T/\∃D id:Nat,ds'=⟨.collected D, #[]⟩::ds/\h.length<=id/\h'[id]? =some (.raw D (.deferred (some [])) [] [])/\K xs.length h') T h:=λφ hu w g0 a r=>by
 have ω:=jC r.t g
 rw[hg] at ω
 obtain⟨us0,Z,e1,e2,e3⟩:=ω
 have e2:us0.toList=[]:=e2
 have e2:us0= #[]:=by simpa using e2
 subst e2
 refine(wpIn_wide (n:=1)).1 (q4a e1 (Zla ν) ?_)
 intro fn rec F
 obtain⟨D,hD⟩:∃D,D=w.heap.size:=⟨_,rfl⟩
 obtain⟨l,hl⟩:∃l,l=D+1:=⟨_,rfl⟩
 obtain⟨ks,τ⟩:∃ks,ks=(List.range N).map T:=⟨_,rfl⟩
 obtain⟨us,hus⟩:∃us,us=a.tmps.toList:=⟨_,rfl⟩
 have hark:ARs (ctx w g0 (fill φ h)) ks us:=by
  rw[τ,hus]
  refine wqa r.t N _ (by rw[qP];exact r.n) λi hi=>?_
  rw[qB,zt]
  rw[zT (by rw[r.n];exact hi)]
  rfl
 have k1:=qga (g:=g0) r.ok r.hB (.deferred (some [])) (ks:=[]) (us:=[]) rfl
 have k2:=qga k1.ok k1.size (.loop (rec .ready none)) (ARs.le k1.le _ _ hark)
 have k12:=k1.trans k2
 rw[<-hD] at k12
 have hs1:(w.alloc (.deferred (some []))).heap.size=l:=by rw[World.size_alloc,hl,hD]
 rw[hs1] at k12
 obtain⟨L,s⟩:∃L,L=h++[.raw D (.deferred (some [])) [] [],.raw l (.loop (rec .ready none)) ks us]:=⟨_,rfl⟩
 have hfl:fill φ L=fill φ h++[.raw D (.deferred (some [])) [] []]++[.raw l (.loop (rec .ready none)) ks us]:=by rw[s,jO hu];simp
 rw[<-hfl] at k12
 obtain⟨W1,hW1⟩:∃W1,W1=(w.alloc (.deferred (some []))).alloc (.loop (rec .ready none)):=⟨_,rfl⟩
 rw[<-hW1] at k12⊢
 have hp1:Pre h L:=⟨_,s,zp rfl (zF rfl)⟩
 have Y:L.length=h.length+2:=by rw[s];simp
 have z:∀st J,(Loop.params (rec st J))= #[p]/\(rec st J).tmps=a.tmps/\(rec st J).assign=assign/\(rec st J).body=body/\(rec st J).state=st/\(rec st J).pending=J/\(rec st J).fn=fn:=λst J=>by rw[F];exact⟨rfl,rfl,rfl,rfl,rfl,rfl,rfl⟩
 obtain⟨KK,y⟩:∃KK:Nat->List Ob->Prop,KK=λi h'=>K i h'/\h'[h.length]? =some (.raw D (.deferred (some [])) [] [])/\h'[h.length+1]? =some (.raw l (.loop (rec .ready none)) ks us):=⟨_,rfl⟩
 have hy:∀i x h',xs[i]? =some x->KK i h'->Vz P l [x] h' λh''=>KK (i+1) h''/\KeepB L.length h' h'':=by
  intro i x h' hx σ H hu' B' w' g' vs hh hB hvs
  rw[y] at σ
  obtain⟨q1,U,q3⟩:=σ
  obtain⟨v,r0,rfl,hv,θ⟩:=hvs
  have θ:r0=[]:=θ
  subst θ
  obtain⟨hb1,hb2,hb3⟩:=hh.ok _ _ (qy (φ:=H) q3 rfl)
  have hyr:=run_yield (P:=P) (w:=w') (args:= #[v]) hb2 (by rw[(z _ _).1];rfl)
  rw[(z _ _).1,(z _ _).2.1,(z _ _).2.2.1,(z _ _).2.2.2.1,(z _ _).2.2.2.2.2.2] at hyr
  refine⟨_,_,_,_,hyr,λm=>wsa (n:=0) (roundIn_of_wpIn trivial ?_)⟩
  have htm:((#[p].zip #[v]).foldl (λtmps (t,a)=>tmps.setIfInBounds t a) a.tmps:Array Value)=a.tmps.setIfInBounds p v:=by simp
  have hT2:wK (ctx w' g' (fill H h')) (Zja N T) a:=λi=>by
   unfold Zja
   split
   ·rename_i hi
    rw[τ] at hb3
    obtain⟨u,z1,z2⟩:=(wra hb3).2 i hi
    rw[hus,qB] at z1
    rw[zt,z1]
    exact z2
   ·trivial
  have C:Rel N ⟨B',[]⟩ w' g' (fill H h') ⟨a.tmps.setIfInBounds p v,[]⟩ (upd (Zja N T) p x):=
   ⟨hh,hB,kMa (a:=a) hT2 hv (by rw[r.n];exact hp),rfl,by simp[r.n]⟩
  refine Code.wpIn_mono ?_ (ρ B' l i x h' hx q1 H hu' w' g' _ (by first|(rw[htm];exact C)|simpa using C))
  rintro e a1 w1 ⟨I,c,⟨rfl,hmid,ξ,hkb⟩,g2,qk1,ι,G⟩
  have A:=ξ _ _ _ _ _ q3
  have δ:=G.ok.ok _ _ (qy (φ:=H) A rfl)
  have ζ:{ rec .ready none with state:= .busy }=rec .busy none:=by rw[F]
  refine⟨_,run_beginRound δ.2.1 (z _ _).2.2.2.2.1,?_⟩
  rw[ζ]
  have kt:=Xg G.ok G.size (qy (φ:=H) A rfl) (.loop (rec .busy none))
  rw[<-jB rfl] at kt
  have V:h.length+1<c.length:=(zd.1 A).1
  have ε:Rel N ⟨B',[]⟩ (w1.putObj l (.loop (rec .busy none))) g2 (fill H (c.set (h.length+1) (.raw l (.loop (rec .busy none)) ks us))) a1 I:=⟨kt.ok,kt.size,λi=>AR.le kt.le _ _ (ι.t i),ι.d,ι.n⟩
  refine Code.wpIn_mono ?_ (η B' l i x I _ hx (β _ _ _ _ _ _ _ _ _ _ (by omega) hmid A) H (hu'.mono (by rw[zP];exact Qr G)) _ g2 a1 ε)
  rintro e a2 w3 ⟨T3,h3,⟨rfl,hk3,R,hkb3⟩,g3,qk2,qr2,Q⟩
  have q3s:(c.set (h.length+1) (.raw l (.loop (rec .busy none)) ks us))[h.length+1]? =some (.raw l (.loop (rec .busy none)) ks us):=zm V
  have B:=R _ _ _ _ _ q3s
  have α:=Q.ok.ok _ _ (qy (φ:=H) B rfl)
  have W:=run_endRound (P:=P) none α.2.1
  have hrdy:{ rec .busy none with state:=if(none:Option Code).isNone then .ready else .done,pending:=none }=rec .ready none:=by rw[F];rfl
  rw[hrdy] at W
  refine⟨_,_,W,?_⟩
  have kt3:=Xg Q.ok Q.size (qy (φ:=H) B rfl) (.loop (rec .ready none))
  rw[<-jB rfl] at kt3
  have hd1:=ξ _ _ _ _ _ U
  have hd2:(c.set (h.length+1) (.raw l (.loop (rec .busy none)) ks us))[h.length]? =some (.raw D (.deferred (some [])) [] []):=by
   rw[zc (by omega)];exact hd1
  have hd3:=R _ _ _ _ _ hd2
  have ψ:h.length+1<h3.length:=(zd.1 B).1
  refine⟨h3.set (h.length+1) (.raw l (.loop (rec .ready none)) ks us),g3,rfl,⟨?_,((((hkb.trans (.raw A)).trans hkb3).trans (.raw B)).mono (by rw[Y];omega))⟩,?_,(G.trans kt).trans (Q.trans kt3)⟩
  ·rw[y]
   exact⟨S _ _ _ _ _ _ _ _ (by omega) hk3 B,by rw[zc (by omega)];exact hd3,zm ψ⟩
  ·exact((qk1.trans (qH A rfl)).trans qk2).trans (qH B rfl)
 have hc:=hseq l KK L
  (by rw[y];exact⟨by rw[s];exact hK0 _ (zp rfl (zF rfl)),by rw[s,zM rfl];rfl,by rw[s,zN (k:=1) rfl];rfl⟩)
  (λi h' M hM q=>by
   rw[y] at q⊢
   obtain⟨q1,U,q3⟩:=q
   exact⟨υ i h' M hM q1,zf U,zf q3⟩) (λi h' q=>by rw[y] at q;exact hrd i h' q.1)
  (by
   obtain⟨h',z1,z2,z3⟩:=hKex [.raw D (.deferred (some [])) [] [],.raw l (.loop (rec .ready none)) ks us] (zp rfl (zF rfl))
   rw[y]
   exact⟨h',⟨z1,z3 _ _ _ _ _ (by rw[zM rfl];rfl),z3 _ _ _ _ _ (by rw[zN (k:=1) rfl];rfl)⟩,by rw[s];exact z2⟩)
  (λi h' q=>by
   rw[y] at q
   have:=(zd.1 q.2.2).1
   omega) hy
 have γ:ARs (ctx W1 g0 (fill φ L)) (.v (.func (.yield l) #[] #[])::lb) (Value.func (.yield l) #[] #[]::Z.toList):=⟨_,_,rfl,rfl,ARs.le k12.le _ _ e3⟩
 have E:=hc.2.2 φ (hu.mono hp1.len) b W1 g0 _ k12.ok k12.size γ
 refine callsIn_wide.2 ?_
 have harr:(Value.func (.yield l) #[] #[]::Z.toList).toArray= #[.func (.yield (w.heap.size+1)) #[] #[]]++Z:=by
  rw[hl,hD];simp
 rw[harr] at E
 refine E.mono λe W2 ⟨v,_,c,g2,q1,U,q5,q6,_⟩=>⟨⟨v,q1⟩,?_⟩
 rw[y] at U
 obtain⟨U,q3,B⟩:=U
 have hraw:=q6.ok.ok _ _ (qy (φ:=φ) B rfl)
 have X:=Xg q6.ok q6.size (qy (φ:=φ) B rfl) (.loop (rec .exhausted none))
 rw[<-jB rfl] at X
 rw[<-hD, <-hl]
 have V:h.length+1<c.length:=(zd.1 B).1
 have f:=(k12.trans q6).trans X
 refine⟨hraw.2.1,_,T,c.set (h.length+1) (.raw l (.loop (rec .exhausted none)) ks us),⟨rfl,rfl,D,h.length,rfl,zo _,by rw[zc (by omega)];exact q3,S _ _ _ _ _ _ _ _ (by omega) U B⟩,g2,?_,?_,f⟩
 ·have:ResK h L:=by rw[s];exact q8
  exact(this.trans q5).trans (qH B rfl)
 ·exact⟨f.ok,f.size,λi=>AR.le f.le _ _ (r.t i),by simp[r.d],r.n⟩
theorem Vf:∀ {ar:List AV} {i:Nat},ar.length<=i->nth ar i= .bad
 | [],_,_=>rfl
 | x::ar,0,h=>absurd h (Nat.not_succ_le_zero _)
 | x::ar,i+1,h=>Vf (ar:=ar) (Nat.le_of_succ_le_succ h)
theorem Vg{B:Nat}{w:World}{g:Gh}{a:Act}{fn:Func}{r:AV}(n:HOk B w g h)(hB:B<=w.heap.size)(o:wK (ctx w g h) T a)(b:Zi P T h fn.results.toList=some r):∃v,(results fn a.tmps).run P w= .ok v w/\AR (ctx w g h) r v:=by
 unfold Zi at b
 cases i:wT P T h fn.results.toList with
 | none=>rw[i] at b;cases b
 | some xs=>
   rw[i] at b
   injection b with b
   obtain⟨us,m,j⟩:=ZM n hB o _ xs i
   have p:(fn.results.mapM (vHa a.tmps)).run P w= .ok us.toArray w:=by
    rw[Array.mapM_eq_mapM_toList]
    simp[m]
   have c:(results fn a.tmps).run P w= .ok (if h:us.toArray.size=1 then us.toArray[0] else .tuple us.toArray) w:=by
    rw[VB,Sem.run_bind,p]
    rfl
   refine⟨_,c,?_⟩
   have k:=kR j
   unfold QDa at b
   split at b
   ·rename_i x
    subst b
    obtain⟨u,q,s,l,e⟩:=j
    have e:q=[]:=e
    subst e s
    simpa using l
   ·rename_i f
    subst b
    rw[dif_neg]
    ·exact⟨us.toArray,rfl,by simpa using j⟩
    ·intro d
     have d:us.length=1:=by simpa using d
     rw[<-k] at d
     match xs,d with
     | [x],_=>exact f x rfl
def V6a(P:Program)(rs:List ResultVar)(h:List Ob)(R:AV->Prop):Zr:=λe ds T h'=>
 (e= .ret∨e= .normal)/\(ds=[]∨∃D id:Nat,ds=[⟨.collected D, #[]⟩]/\h.length<=id/\h'[id]? =some (.raw D (.deferred (some [])) [] []))/\Pre h h'/\(∃r,(∀a,Zi P T a rs=some r)/\r.lt h.length=true/\R r)
theorem KG{f:FuncId}(fn:Func){c:Code}{ar:List AV}{R:AV->Prop}(rs:List ResultVar)(N:Nat)(hf:P.funcs[f]? =some fn)(hb:fn.body=some c)(hN:fn.ntmps=N)(H:fn.results.toList=rs)(V:ar.length.ble N=true)(I:JF P f=true)(hex:∃r,R r)
  (k:∀b,Jn P N b [] c (V6a P rs h R) (nth ar) h):ACalls P f ar h λr h'=>R r/\h'=h:=by
 subst hN H
 have V:=ji V
 refine⟨I,(let ⟨r,q⟩:=hex;⟨r,h,⟨q,rfl⟩,.refl⟩),λφ U B w g vs W hB a=>?_⟩
 have S:=kR a
 refine(callsIn_wide (n:=0)).1 (callsIn_of_wp_marks (F:=Fence.wide) hf hb trivial (wpIn_wide.2 ?_))
 have x:Rel fn.ntmps ⟨B,[]⟩ w g (fill φ h) { tmps:=vs.toArray++Array.replicate (fn.ntmps - vs.toArray.size) undef,defers:=[] } (nth ar):=by
  refine⟨W,hB,λi=>?_,rfl,by simp;omega⟩
  by_cases hi:i<ar.length
  ·obtain⟨u,e1,Z⟩:=vv a i hi
   have:(vs.toArray++Array.replicate (fn.ntmps - vs.toArray.size) undef).getD i undef=u:=by
    rw[zt,Array.getElem?_append_left (by simp;omega)]
    simp[e1]
   simp only[this]
   exact Z
  ·rw[Vf (by omega)]
   trivial
 refine wp_mono (k B φ U w g _ x) λe E w' ⟨ds,T',h',⟨Y,G,y,⟨r,K,M,Q⟩⟩,g',ek,J,z⟩=>?_
 obtain⟨L,rfl,hL⟩:=y
 have fin:∀(m:World) (C:List Ob),Good B w g (fill φ h) m g' (fill φ C)->wK (ctx m g' (fill φ C)) T' E->(∃L2,C=h++L2)->∃v,(results fn E.tmps).run P m= .ok v m/\∃v' X h'' g'',Ending.returned v= .returned v'/\(R X/\h''=h)/\ResK h h''/\Good B w g (fill φ h) m g'' (fill φ h'')/\AR (ctx m g'' (fill φ h'')) X v':=by
  rintro m C l O ⟨L2,rfl⟩
  obtain⟨v,s,o⟩:=Vg (fn:=fn) l.ok l.size O (K _)
  rw[jO U] at l o
  refine⟨v,s,v,r,h,g',rfl,⟨Q,rfl⟩,.refl,l.drop rfl (by have:=W.ids;exact this),AR.less (kG m g' (fill φ h) L2) _ _ (by rw[qT];exact M) o⟩
 have main:LeavesInM Fence.wide 0 P fn E.tmps (λe w'=>∃v r h' g',e= .returned v/\(R r/\h'=h)/\ResK h h'/\Good B w g (fill φ h) w' g' (fill φ h')/\AR (ctx w' g' (fill φ h')) r v) E.defers .returning w':=by
  rw[J.d]
  rcases G with rfl|⟨D,id,rfl,p,T⟩
  ·obtain⟨v,s,o⟩:=fin w' _ z J.t ⟨L,rfl⟩
   exact⟨v,s,o⟩
  ·have A:=z.ok.ok _ _ (qy (φ:=φ) T rfl)
   have j:=Xg z.ok z.size (qy (φ:=φ) T rfl) (.deferred none)
   rw[<-jB rfl] at j
   obtain⟨v,s,o⟩:=fin _ _ (z.trans j) (λi=>AR.le j.le _ _ (J.t i)) ⟨L.set (id - h.length) _,by rw[zR _ _ p]⟩
   exact⟨by simp,.inl ⟨D,_,rfl,run_takeDeferred A.2.1,v,s,o⟩⟩
 rcases Y with rfl|rfl
 ·exact main
 ·exact main
end
theorem KeepB.app{n:Nat}{a M:List Ob}:KeepB n a (a++M):=λj ty cs _ q=>zf q
theorem KeepB.setL{n i:Nat}{a:List Ob}{o:Ob}(hi:i<n):KeepB n a (a.set i o):=λj ty cs b q=>by
 rw[zc (by omega)];exact q
theorem KeepB.setR{n i:Nat}{a:List Ob}{o:Ob}{ty e rows st}(hi:a[i]? =some (.row ty e rows st)):KeepB n a (a.set i o):=λj ty cs b q=>by
 have:i≠j:=λe=>by rw[e,q] at hi;cases hi
 rw[zc this];exact q
theorem RawK.trans{a b c:List Ob}(h:RawK a b)(k:RawK b c):RawK a c:=λj l o ks us q=>k j l o ks us (h j l o ks us q)
theorem RawK.app{a M:List Ob}:RawK a (a++M):=λj l o ks us q=>zf q
theorem RawK.setB{i:Nat}{a:List Ob}{o:Ob}{ty cs}(hi:a[i]? =some (.box ty cs)):RawK a (a.set i o):=λj l _ ks us q=>by
 have:i≠j:=λe=>by rw[e,q] at hi;cases hi
 rw[zc this];exact q
theorem RawK.setR{i:Nat}{a:List Ob}{o:Ob}{ty e rows st}(hi:a[i]? =some (.row ty e rows st)):RawK a (a.set i o):=λj l _ ks us q=>by
 have:i≠j:=λe=>by rw[e,q] at hi;cases hi
 rw[zc this];exact q
section
variable {F:List (Nat × Ob)} {h0 h:List Ob} {i bty ty e:Nat} {rows rows':List (List AV)}
theorem LIn.raw(k:LIn F h0 h i bty ty e rows){j l o ks us o'}(p:h0.length<=j)(a:h[j]? =some (.raw l o ks us)):LIn F h0 (h.set j (.raw l o' ks us)) i bty ty e rows:=by
 obtain⟨k1,k2,k3,x,k4,k5⟩:=k
 have f:∀(z:Nat) t cs,h[z]? =some (.box t cs)->(h.set j (.raw l o' ks us))[z]? =some (.box t cs):=λz t cs q=>by
  have:j≠z:=λe=>by rw[e,q] at a;cases a
  rw[zc this];exact q
 refine⟨k1.set p rfl,k2,λz b=>⟨(k3 z b).1,(k3 z b).2.1,?_⟩,x,f _ _ _ k4,?_⟩
 ·obtain⟨r,⟨t,cs,g⟩,c⟩:=k3 z b
  rw[g] at c⊢
  exact f _ _ _ c
 ·rcases k5 with⟨rfl,m⟩|⟨id,st,n,rfl,d⟩
  ·exact .inl ⟨rfl,m⟩
  ·refine .inr ⟨id,st,n,rfl,?_⟩
   have:j≠id:=λe=>by rw[e,d] at a;cases a
   rw[zc this];exact d
theorem LIn.box(k:LIn F h0 h i bty ty e rows):∃x,h[i]? =some (.box bty [x]):=⟨_,k.at_.choose_spec.1⟩
theorem LIn.raws(k:LIn F h0 h i bty ty e rows){M:List Ob}{o:Ob}:RawK h ((h++M).set i o):=by
 obtain⟨x,a⟩:=k.box
 exact RawK.app.trans (.setB (zf a))
theorem LIn.raws_own(k:LIn F h0 h i bty ty e rows){M:List Ob}{o o':Ob}{id:Nat}{c ee:Nat}{a:List (List AV)}{st:Nat}(d:h[id]? =some (.row c ee a st)):RawK h (((h++M).set id o').set i o):=by
 obtain⟨x,f⟩:=k.box
 have b:id≠i:=λq=>by rw[q,f] at d;cases d
 exact(RawK.app.trans (.setR (zf d))).trans (.setB (by rw[zc b];exact zf f))
theorem LIn.anyR(k:LIn F h0 h i bty ty e rows)(rows':List (List AV)):∃h',LIn F h0 h' i bty ty e rows'/\ResK h h'/\RawK h h':=by
 have q:=k.push_nil (M:=[.row ty e rows' 0]) (zF rfl) (id:=h.length) (zo _) (by rw[zM rfl];rfl)
 exact⟨_,q,k.pre.resK q.pre,k.raws⟩
end
section
variable {P:Program} {N b:Nat} {T:Env} {h:List Ob} {ds:List Deferred}
def Zma(P:Program)(N b:Nat)(ds:List Deferred)[x:Held (Code × Zr)](T:Env)(h:List Ob):Prop:=Jn P N b ds x.it.1 x.it.2 T h
theorem kXa{c:Code}{X:Zr}(k:Jn P N b ds c X T h): @Zma P N b ds ⟨(c,X)⟩ T h:=k
theorem YP{c:Code}{X Y:Zr}(k:Jn P N b ds c X T h)(j:∀e ds T h,X e ds T h->Y e ds T h):Jn P N b ds c Y T h:=λφ f w g a r=>
 wp_mono (k φ f w g a r) λe m w' ⟨d,i,h',l,q⟩=>⟨d,i,h',j _ _ _ _ l,q⟩
end
section
variable {P:Program} {N b:Nat} {T:Env} {h:List Ob} {ds:List Deferred}
def xUa(P:Program)(N b:Nat)(ds:List Deferred)[x:Held (Code × Zr)]:jA
 | .normal,T,h=> @Zma P N b ds x T h
 | e,T,h=>x.it.2 e ds T h
theorem Zna(x:Held (Code × Zr)): @xUa P N b ds x .normal T h= @Zma P N b ds x T h:=id rfl
theorem Zoa(c:Code)(X:Zr): @xUa P N b ds ⟨(c,X)⟩ .ret T h=X .ret ds T h:=id rfl
attribute [go_sem] Zna Zoa
theorem xM{c c':Code}{X:Zr}(a:okC N c=true)(k:wpC P N ⟨b,ds⟩ c (@xUa P N b ds ⟨(c',X)⟩) T h):Jn P N b ds (.seq c c') X T h:=
 VU (kSa (qz _ a k) λe T h q=>by cases e<;>exact q)
theorem YQ{c:Code}{X:Zr}(a:okC N c=true)(k:wpC P N ⟨b,ds⟩ c (λe T h=>X e ds T h) T h):Jn P N b ds c X T h:=
 kSa (qz _ a k) λe T h q=>q
theorem Zpa{rs:List ResultVar}{h0 h':List Ob}{T:Env}{R:AV->Prop}{ds:List Deferred}(a:ds=[]∨∃D id:Nat,ds=[⟨.collected D, #[]⟩]/\h0.length<=id/\h'[id]? =some (.raw D (.deferred (some [])) [] []))(f:Pre h0 h'){r:AV}(e:∀c,Zi P T c rs=some r)(d:r.lt h0.length=true)(b:R r):V6a P rs h0 R .ret ds T h':=
 ⟨.inl rfl,a,f,⟨r,e,d,b⟩⟩
end
end Go.Proofs.YtigdlmpjijhpaaaGreat.Ax
namespace Go.Proofs.YtigdlmpjijhpaaaGreat.Ax
open Go Go.Proofs
def yK(s t:Spn):Spn:=⟨max s.from_ t.from_,min s.to_ t.to_⟩
def ye(a b:List Spn):List Spn:=a.flatMap λs=>b.map (yK s)
def Kg(a b:List Spn):List Spn:=qg (ye (qg a) (qg b))
theorem x3a(a b:List Spn)(s:Spn):ye (a++[s]) b=ye a b++b.map (yK s):=by simp[ye]
theorem YT(a b:List Spn):(ye a b).length=a.length*b.length:=by
 induction a with
 | nil=>simp[ye]
 | cons s a c=>simp only[ye,List.flatMap_cons,ze,zb,List.length_cons,Nat.succ_mul] at *; omega
theorem wxa{a b:List Spn}{t:Int}:Cov (ye a b) t↔Cov a t/\Cov b t:=by
 unfold Cov ye
 constructor
 ·rintro ⟨s,e,g,f⟩
  obtain⟨x,d,e⟩:=List.mem_flatMap.1 e
  obtain⟨y,c,rfl⟩:=zx.1 e
  simp only[yK] at g f
  exact⟨⟨x,d,by omega,by omega⟩,y,c,by omega,by omega⟩
 ·rintro ⟨⟨x,d,g,f⟩,y,c,h,i⟩
  exact⟨yK x y,List.mem_flatMap.2 ⟨x,d,zx.2 ⟨y,c,rfl⟩⟩,by simp only[yK];omega,by simp only[yK];omega⟩
theorem XI{a b:List Spn}{t:Int}:Cov (Kg a b) t↔(0<=t/\t<32054400)/\Cov a t/\Cov b t:=by
 unfold Kg
 rw[kI,wxa,kI,kI]
 constructor
 ·rintro ⟨d,c,⟨_,_,e⟩,_,_,f⟩;exact⟨⟨d,c⟩,e,f⟩
 ·rintro ⟨⟨d,c⟩,e,f⟩;exact⟨d,c,⟨d,c,e⟩,d,c,f⟩
theorem QK:∀(c:Spn) (r:List Spn) (s:Spn),s∈kA c r->s.from_=c.from_∨∃x∈r,s.from_=x.from_
 | c,[],s,h=>by
   rw[kA,zJ] at h
   subst h;exact .inl rfl
 | c,x::r,s,h=>by
   rw[kA] at h
   split at h
   ·rcases QK _ r s h with h|⟨y,a,h⟩
    ·exact .inl h
    ·exact .inr ⟨y,.tail _ a,h⟩
   ·rcases zH.1 h with rfl|h
    ·exact .inl rfl
    ·rcases QK x r s h with h|⟨y,a,h⟩
     ·exact .inr ⟨x,.head _,h⟩
     ·exact .inr ⟨y,.tail _ a,h⟩
theorem JR{l:List Spn}{s:Spn}(h:s∈qg l):∃x∈jW l,s.from_=x.from_:=by
 unfold qg at h
 have a:∀x∈XE (jW l),x∈jW l:=λx b=>(vJ _).mem_iff.1 b
 cases d:XE (jW l) with
 | nil=>rw[d] at h;cases h
 | cons c r=>
   rw[d] at h a
   rcases QK c r s h with h|⟨x,b,h⟩
   ·exact⟨c,a c (.head _),h⟩
   ·exact⟨x,a x (.tail _ b),h⟩
theorem Jc:∀ {a b:List Int},a.Nodup->(∀x∈a,x∈b)->a.length<=b.length
 | [],_,_,_=>by simp
 | x::a,b,c,f=>by
   rw[List.nodup_cons] at c
   have g:=f x (.head _)
   have:=Jc (a:=a) (b:=b.erase x) c.2 λy d=>(List.mem_erase_of_ne (λe=>c.1 (by rw[<-e];exact d))).2 (f y (.tail _ d))
   rw[List.length_erase_of_mem g] at this
   have:0<b.length:=List.length_pos_of_mem g
   rw[List.length_cons];omega
theorem PlainS.froms{l:List Spn}(h:PlainS l):(l.map (·.from_)).Nodup:=by
 induction l with
 | nil=>simp
 | cons s l a=>
   rw[List.map_cons,List.nodup_cons]
   refine⟨λc=>?_,a h.tail⟩
   obtain⟨x,b,e⟩:=zx.1 c
   have f:=(qu.1 h.gap).1 x b
   have d:=h.pos s (.head _)
   omega
theorem Wl(a b:List Spn):(Kg a b).length<=(qg a).length+(qg b).length:=by
 have j:=(vf (ye (qg a) (qg b))).froms
 have d:((Kg a b).map (·.from_)).length<=((qg a).map (·.from_)++(qg b).map (·.from_)).length:=by
  refine Jc j λx k=>?_
  obtain⟨s,d,rfl⟩:=zx.1 k
  obtain⟨y,f,e⟩:=JR d
  unfold jW at f
  obtain⟨z,c,rfl⟩:=zx.1 (qw.1 f).1
  obtain⟨p,h,c⟩:=List.mem_flatMap.1 c
  obtain⟨q,g,rfl⟩:=zx.1 c
  have m:=(kE p h).1
  have l:=(kE q g).1
  rw[zK]
  rw[e]
  simp only[xN,yK]
  by_cases i:p.from_<=q.from_
  ·exact .inr (zx.2 ⟨q,g,by omega⟩)
  ·exact .inl (zx.2 ⟨p,h,by omega⟩)
 simpa using d
def qU:Int->List Spn->List Spn
 | k,[]=>if k<32054400 then [⟨k,32054400⟩] else []
 | k,s::r=>(if s.from_>k then [⟨k,s.from_⟩] else [])++qU s.to_ r
def jo(a b:List Spn):List Spn:=Kg a (qU 0 (qg b))
theorem Wm:∀ {l:List Spn} {k t:Int},PlainS l->(∀s∈l,k<=s.from_)->(∀s∈l,s.to_<=32054400)->(Cov (qU k l) t↔(k<=t/\t<32054400)/\¬ Cov l t)
 | [],k,t,_,_,_=>by
   unfold qU
   split
   ·simp[Cov]
   ·simp[Cov];omega
 | s::r,k,t,b,g,e=>by
   have n:=g s (.head _)
   have j:=b.pos s (.head _)
   have m:=e s (.head _)
   have f:=Wm (l:=r) (k:=s.to_) (t:=t) b.tail (λx d=>by have:=(qu.1 b.gap).1 x d;omega) (λx d=>e x (.tail _ d))
   have c:Cov r t->s.to_<t:=b.above
   rw[qU,Jda,f,jD]
   split
   ·simp only[Cov,zJ,exists_eq_left]
    constructor
    ·rintro (h|⟨h,a⟩)
     ·refine⟨by omega,?_⟩
      rintro (q|q)
      ·omega
      ·have:=c q;omega
     ·exact⟨by omega,λq=>by rcases q with q|q;omega;exact a q⟩
    ·rintro ⟨h,a⟩
     by_cases o:t<s.from_
     ·exact .inl (by omega)
     ·refine .inr ⟨⟨?_,h.2⟩,λq=>a (.inr q)⟩
      apply Classical.byContradiction
      intro i
      exact a (.inl (by omega))
   ·simp only[Cov,List.not_mem_nil,false_and,exists_false,false_or]
    constructor
    ·rintro ⟨h,a⟩
     exact⟨by omega,λq=>by rcases q with q|q;omega;exact a q⟩
    ·rintro ⟨h,a⟩
     refine⟨⟨?_,h.2⟩,λq=>a (.inr q)⟩
     apply Classical.byContradiction
     intro i
     exact a (.inl (by omega))
theorem JS:∀(l:List Spn) (k:Int),(qU k l).length<=l.length+1
 | [],k=>by unfold qU;split<;>simp
 | s::r,k=>by
   have:=JS r s.to_
   rw[qU,ze,List.length_cons]
   split<;>simp<;>omega
theorem JU{a b:List Spn}{t:Int}:Cov (jo a b) t↔(0<=t/\t<32054400)/\Cov a t/\¬ Cov b t:=by
 unfold jo
 rw[XI,Wm (vf b) (λs f=>(kE s f).1) (λs f=>(kE s f).2.2),kI]
 constructor
 ·rintro ⟨c,d,_,e⟩;exact⟨c,d,λq=>e ⟨c.1,c.2,q⟩⟩
 ·rintro ⟨c,d,e⟩;exact⟨c,d,c,λq=>e q.2.2⟩
theorem j6(a b:List Spn):(jo a b).length<=(qg a).length+(qg b).length+1:=by
 have e:=Wl a (qU 0 (qg b))
 have c:=z6 (qU 0 (qg b))
 have d:=JS (qg b) 0
 unfold jo
 omega
def Z2(s:Spn)(n:Int):Spn:=⟨s.from_,min s.to_ (s.from_+min n 32054400)⟩
def Z3:List Spn->Int->List Spn
 | [],_=>[]
 | s::r,n=>if n<=0 then [] else Z2 s n::Z3 r (n - ((Z2 s n).to_ - s.from_))
theorem xu:∀(l:List Spn) (n:Int),(Z3 l n).length<=l.length
 | [],_=>zo _
 | s::r,n=>by
   rw[Z3]
   split
   ·simp
   ·have:=xu r (n - ((Z2 s n).to_ - s.from_))
    simp only[List.length_cons];omega
def qv(l:List Spn)(n:Int):List Spn:=Z3 (qg l) n
def JV(l:List Spn)(n:Int):List Spn:=if n<=0 then [] else jo l (qv l (jy (qg l) - min n 32054400))
