import Derived.Test.YtigdlmpjijhpaaaGreatBA
import Derived.Test.YtigdlmpjijhpaaaGreatB08
set_option linter.all false
namespace Go.Proofs.YtigdlmpjijhpaaaGreat.Ax
open Go Go.RowKit
section
variable {P:Program} {N:Nat} {B:Bs} {ops:Array Oper} {T:Env} {h:List Ob} {K K':Env->List Ob->Prop} {b:Nat}
def Jva(ops:Array Oper)(i:Ent)(o:Oper):List Ent->Prop
 | []=>True
 | j ::r=>(∃x,ops[j.1]? =some x/\QF ops j i x o=true/\(cls x.op≠2->j.2.2=[])/\(cls x.op=3->cls o.op=3->j.2.1≠i.2.1)/\(∀l∈j.2.2,vR ops l i.1=true)/\
     (j.1∈i.2.2->∀d,x.dst=some d->vj ops x d=false)/\j.1∉r.map (·.1)/\(∀l∈i.2.2,l≠j.1->l∉r.map (·.1)->vR ops l j.1=true))/\Jva ops i o r
def less(i:Ent)(pre:List Ent):Ent:=(i.1,i.2.1,i.2.2.filter λl=> !(pre.map (·.1)).contains l)
theorem xIa{j i:Ent}{x o:Oper}{r:List Ent}(b:QF ops j i x o=true)(c:j.1∉r.map (·.1)):QF ops j (less i r) x o=true:=by
 simp only[QF,zl,Bool.or_eq_true,beq_iff_eq,bne_iff_ne,ne_eq,decide_eq_true_eq] at b⊢
 refine⟨b.1,?_⟩
 rcases b.2 with((((h|h)|h)|⟨h,a⟩)|⟨h,a⟩)|⟨h,a⟩
 ·exact .inl (.inl (.inl (.inl (.inl h))))
 ·exact .inl (.inl (.inl (.inl (.inr h))))
 ·exact .inl (.inl (.inl (.inr h)))
 ·refine .inl (.inl (.inr ⟨h,?_⟩))
  have a:j.1∈i.2.2:=by simpa using a
  simp only[less,List.contains_eq_mem,decide_eq_true_eq,qq,a,true_and]
  simpa using c
 ·refine .inl (.inr ⟨h,?_⟩)
  have:i.2.2=[]:=by simpa using a
  simp[less,this]
 ·refine .inr ⟨h,?_⟩
  have:i.2.2=[]:=by simpa using a
  simp[less,this]
theorem qDa{i:Ent}{o:Oper}(p:ops[i.1]? =some o)(f:cls o.op≠2->i.2.2=[])(post:List Ent):∀(pre:List Ent),Jva ops i o pre->∀ {T:Env} {h:List Ob},(cls o.op=3->h[b+i.2.1]? =some .res)->
  wpE P ops b K (pre++i::post) T h->kO P ops b (less i pre) o (wpE P ops b K (pre++post)) T h
 | [],_,T,h,_,k=>by
   simp only[List.nil_append,wpE,p] at k
   have:less i []=i:=by
    have:i.2.2.filter (λl=> !(([]:List Ent).map (·.1)).contains l)=i.2.2:=List.filter_eq_self.2 (by simp)
    simp only[less,this]
   rw[this]
   exact k
 | j::pre,⟨⟨x,t,E,w,u,f5,f6,f7,C⟩,z⟩,T,h,s,k=>by
   simp only[List.cons_append,wpE,t] at k⊢
   have k2:kO P ops b j x (kO P ops b (less i pre) o (wpE P ops b K (pre++post))) T h:=vIa k λF h' d k'=>by
    refine qDa p f post pre z (λg=>d _ (λD=>?_) (s g)) k'
    have:=u D g
    omega
   have c:∀l,l∈(less i (j::pre)).2.2↔l∈i.2.2/\l≠j.1/\l∉pre.map (·.1):=λl=>by
    simp only[less,qq,List.map_cons,List.contains_eq_mem,Bool.not_eq_true',decide_eq_false_iff_not,zE,not_or]
   have a:∀l,l∈(less i pre).2.2↔l∈i.2.2/\l∉pre.map (·.1):=λl=>by
    simp only[less,qq,List.contains_eq_mem,Bool.not_eq_true',decide_eq_false_iff_not]
   have:=qvb (q:=less i pre) (l2:=(less i (j::pre)).2.2) (y:=o) t (xIa E f7) w (λg=>by simp[less,f g]) p
    (λl r=>by
     obtain⟨m,n,v⟩:=(c l).1 r
     exact⟨(a l).2 ⟨m,v⟩,C l m n v⟩) f5 (λl r B=>by
     obtain⟨m,n⟩:=(a l).1 r
     by_cases e:l=j.1
     ·exact e
     ·exact absurd ((c l).2 ⟨m,e,n⟩) B) s u (λA=>f6 ((a _).1 A).1) k2
   exact this
theorem QG{listed:Array Bool}(a:∀i o,ops[i]? =some o->listed.getD i true=true->∀j∈xl o,listed.getD j false=true):
  ∀(f j i:Nat) (o:Oper),ops[i]? =some o->(∀k∈xl o,listed.getD k false=true)->Qd ops f j i=true->listed.getD j false=true
 | 0,j,i,o,m,g,h=>by
   simp only[Qd,m,List.contains_eq_mem,decide_eq_true_eq] at h
   exact g j h
 | f+1,j,i,o,m,g,h=>by
   simp only[Qd,m,List.contains_eq_mem,Bool.or_eq_true,decide_eq_true_eq,List.any_eq_true,zl] at h
   rcases h with h|⟨k,n,_,h⟩
   ·exact g j h
   ·have c:=g k n
    cases d:ops[k]? with
    | none=>cases f<;>simp[Qd,d] at h
    | some p=>
      have l:listed.getD k true=true:=by
       rw[zt] at c⊢
       cases e:listed[k]? with
       | none=>rfl
       | some b=>rw[e] at c;simpa using c
      exact QG a f j k p d (a k p d l) h
theorem yE:∀(l:List Oper) (i:Nat),Zu ops i l=true->∀(m:Nat) (o:Oper),l[m]? =some o->∀j∈xl o,j<i+m
 | [],_,_,m,o,a,_,_=>by simp at a
 | o::l,i,h,0,p,a,j,b=>by
   simp only[Zu,zl,zR,decide_eq_true_eq] at h
   injection a with a
   subst a
   exact h.1 j b
 | o::l,i,h,m+1,p,a,j,b=>by
   simp only[Zu,zl,zR,decide_eq_true_eq] at h
   have:=yE l (i+1) h.2 m p a j b
   omega
theorem jR{listed:Array Bool}{i:Nat}(h:i∈Region.ready .any ops listed):i<ops.size/\listed.getD i true=false/\∃o,ops[i]? =some o/\∀j∈xl o,listed.getD j false=true:=by
 simp only[Region.ready,qq,qT,zl,Bool.not_eq_true'] at h
 obtain⟨a,d,b⟩:=h
 refine⟨a,d,ops[i],zW a,λj c=>?_⟩
 simp only[zW a,Option.map_some,Option.getD_some] at b
 rw[Array.all_eq_true_iff_forall_mem] at b
 simp only[xl,zw,qq] at c
 obtain⟨e,⟨f,g⟩,rfl⟩:=c
 have:=b e (by simpa using f)
 simpa [g] using this
theorem Zx{listed:Array Bool}{i:Nat}{o:Oper}(b:i<ops.size)(a:listed.getD i true=false)(g:ops[i]? =some o)(f:∀j∈xl o,listed.getD j false=true):i∈Region.ready .any ops listed:=by
 simp only[Region.ready,qq,qT,zl,Bool.not_eq_true']
 refine⟨b,a,?_⟩
 simp only[g,Option.map_some,Option.getD_some]
 rw[Array.all_eq_true_iff_forall_mem]
 intro e c
 cases d:Region.binds .any e with
 | false=>simp
 | true=>
   have:=f e.on (by simp only[xl,zw,qq];exact⟨e,⟨by simpa using c,d⟩,rfl⟩)
   simpa using this
theorem KC{φ:Nat->Ob}{i:Nat}{o:Oper}(F:ops[i]? =some o)(E:xc N o=true){run:(Env->List Ob->Prop)->Env->List Ob->Prop}(k:kN ops o run K T h){Q:Exit->Act->World->Prop}{w:World}{g:Gh}{a:Act}(r:Rel N B w g (fill φ h) a T)
  {next:Act->World->Prop} (l:run K T h->o.wp P a w next Q) (G:∀C h' w' A,K C h'->Aft N B φ w g h C h' A w'->next A w'):wpOp P ops Q i next a w:=by
 have f:K (qW T o.dst (.v undef)) h->next (a.put o.dst undef) w:=λk=>
  G _ _ _ _ k ⟨g,.refl,xU r (Good.refl r.ok r.hB) (x:= .v undef) rfl E,Good.refl r.ok r.hB⟩
 unfold kN at k
 unfold wpOp
 simp only[F]
 split at k
 ·rename_i m
  rw[if_pos (by simp[Region.wanted,m])]
  exact .inl (l k)
 ·rename_i j p m
  split at k
  ·rename_i d n
   have s:yielded ops a.tmps j=match a.tmps[d]? with|some (.bool b)=>some b|_=>none:=by
    simp only[yielded,n,Option.bind_some]
    rfl
   have c:=r.t d
   rw[zt] at c
   split at k
   ·rename_i b z
    rw[z] at c
    have c:(a.tmps[d]?).getD undef= .bool b:=c
    have D:a.tmps[d]? =some (.bool b):=by
     cases e:a.tmps[d]? with
     | none=>rw[e] at c;cases c
     | some u=>rw[e] at c;exact congrArg some c
    rw[D] at s
    by_cases q:b=p
    ·rw[if_pos (by simp[Region.wanted,m,s,q])]
     exact .inl (l (k.1 q))
    ·rw[if_neg (by simp[Region.wanted,m,s,q])]
     exact f (k.2 q)
   ·rename_i vs z
    rw[z] at c
    have c:(a.tmps[d]?).getD undef= .tuple vs:=c
    have y:yielded ops a.tmps j=none:=by
     rw[s]
     cases e:a.tmps[d]? with
     | none=>rfl
     | some u=>rw[e] at c;have:u= .tuple vs:=c;subst this;rfl
    rw[if_neg (by simp[Region.wanted,m,y])]
    exact f k
   ·exact k.elim
  ·exact k.elim
theorem xJa{φ:Nat->Ob}(H:Upto φ h.length)(x:Upto φ b){q:Ent}{o:Oper}(C:ops[q.1]? =some o)(p:xc N o=true)(k:kO P ops b q o K T h){Q:Exit->Act->World->Prop}{w:World}{g:Gh}{a:Act}(r:Rel N B w g (fill φ h) a T)
  {next:Act->World->Prop} (n:∀c h' w' f,K c h'->(∃g',(∀j,(cls o.op=3->j≠b+q.2.1)->h[j]? =some .res->h'[j]? =some .res)/\Rel N B w' g' (fill φ h') f c/\Good B.b w g (fill φ h) w' g' (fill φ h'))->next f w'):wpOp P ops Q q.1 next a w:=by
 by_cases u:cls o.op=3
 ·rw[vS u] at k
  refine KC C p (K:=λc h'=>K c h') k r (λk=>?_) λc h' w' f k' ⟨g',l,d,i⟩=>n _ _ _ _ k' ⟨g',λj _=>l j,d,i⟩
  unfold Jw at k
  split at k
  ·rename_i ob mk F
   obtain⟨dst,op,type,pos,after,guard⟩:=o
   obtain⟨v,w',E,m⟩:=Yd r.ok r.hB r.t F dst type pos after guard
   have z:=m.live
   have s:(fill φ h)[b+q.2.1]? =some .res:=by
    rw[wG,k.1]
    simp only[Option.map_some,Kr]
    rw[if_pos (show(Ob.res).isRes=true from rfl),x _ (by omega)]
   obtain⟨g',y,A⟩:=m.at r.ok r.hB s
   rw[<-jc z] at y A
   unfold Oper.wp
   rw[E]
   refine n _ _ _ _ k.2 ⟨g',λj G D=>?_,xU r y A p,y⟩
   rw[zc (λe=>G u e.symm)]
   exact D
  ·exact k.elim
 ·rw[wJ u] at k
  exact KC C p (kp k λ_ _ k=>k.2) r (λk=>XR H p k r λc h' w' f k' ⟨g',l,d,i⟩=>n _ _ _ _ k' ⟨g',λj _=>l j,d,i⟩) λc h' w' f k' ⟨g',l,d,i⟩=>n _ _ _ _ k' ⟨g',λj _=>l j,d,i⟩
theorem yx:∀(l:List Ent),Kz ops l=true->l.Pairwise λx y=>yw ops x y=true
 | [],_=> .nil
 | x::r,h=>by
   simp only[Kz,zl,zR] at h
   exact .cons h.1 (yx r h.2)
theorem yh{p q:Ent}(h:yw ops p q=true):∃x y,ops[p.1]? =some x/\ops[q.1]? =some y/\(Qd ops 8 p.1 q.1=true∨QF ops p q x y=true)/\Qd ops 8 q.1 p.1=false/\q.1∉p.2.2/\(cls x.op=3->cls y.op=3->p.2.1≠q.2.1):=by
 unfold yw at h
 split at h
 ·rename_i x y d b
  simp only[zl,Bool.or_eq_true,Bool.not_eq_true',bne_iff_ne,ne_eq,List.contains_eq_mem,decide_eq_false_iff_not] at h
  refine⟨x,y,d,b,h.1.1.1,h.1.1.2,h.1.2,λa c=>?_⟩
  rcases h.2 with(h|h)|h
  ·exact absurd a h
  ·exact absurd c h
  ·exact h
 ·cases h
structure Rest (ops:Array Oper) (listed:Array Bool) (L:List Ent):Prop where
 size:listed.size=ops.size
 nodup:(L.map (·.1)).Nodup
 iff:∀i,i<ops.size->(listed.getD i true=false↔i∈L.map (·.1))
 pair:L.Pairwise λx y=>yw ops x y=true
 ent:∀q∈L,∃k,yia ops k q=true
 down:∀i o,ops[i]? =some o->listed.getD i true=true->∀j∈xl o,listed.getD j false=true
theorem Qf{listed:Array Bool}{i:Nat}(hi:i<listed.size)(m:Nat)(d:Bool):(listed.setIfInBounds i true).getD m d=if m=i then true else listed.getD m d:=by
 simp only[zt]
 split
 ·rename_i e;subst e;simp[Array.getElem?_setIfInBounds,hi]
 ·rename_i e;rw[Array.getElem?_setIfInBounds_ne (λh=>e h.symm)]
theorem yF{k:Nat}{q:Ent}(h:yia ops k q=true):∃o,ops[q.1]? =some o/\(cls o.op≠2->q.2.2=[])/\q.1∉q.2.2/\(cls o.op=3->q.2.1<k)/\∀l∈q.2.2,ZY ops l=true:=by
 unfold yia at h
 split at h
 ·rename_i o f
  simp only[zl,Bool.or_eq_true,beq_iff_eq,bne_iff_ne,ne_eq,decide_eq_true_eq,Bool.not_eq_true',List.contains_eq_mem,decide_eq_false_iff_not,zR,List.isEmpty_iff] at h
  obtain⟨⟨⟨b,a⟩,e⟩,d⟩:=h
  refine⟨o,f,λc=>?_,e,λc=>?_,d⟩
  ·rcases b with b|b
   ·exact absurd b c
   ·exact b
  ·rcases a with a|a
   ·exact absurd c a
   ·exact a
 ·cases h
theorem Yu{l p:Nat}(h:ZY ops l=true)(a:p<ops.size):p=l∨Qd ops 8 p l=true∨vR ops l p=true:=by
 simp only[ZY,zl,zR,qT,Bool.or_eq_true,beq_iff_eq] at h
 rcases h.2 p a with(h|h)|h
 ·exact .inl h
 ·exact .inr (.inl h)
 ·exact .inr (.inr h)
theorem vNa{l:Nat}{x:Oper}(h:ZY ops l=true)(a:ops[l]? =some x):∀d,x.dst=some d->vj ops x d=false:=λd b=>by
 simp only[ZY,zl,a] at h
 have:=h.1.2
 rw[b] at this
 simpa using this
theorem xKa{listed:Array Bool}{L:List Ent}(R:Rest ops listed L){i:Ent}{o:Oper}{post:List Ent}(D:ops[i.1]? =some o)(S:∀j∈xl o,listed.getD j false=true):∀(c pre:List Ent),L=c++pre++i::post->Jva ops i o pre
 | _,[],_=>trivial
 | c,j::pre,e=>by
   have E:j∈L:=by rw[e];simp
   have hi:i∈L:=by rw[e];simp
   have b:∀q∈L,q.1<ops.size:=λq r=>by
    obtain⟨k,V⟩:=R.ent q r
    obtain⟨o,Q,_⟩:=yF V
    rcases Nat.lt_or_ge q.1 ops.size with h|h
    ·exact h
    ·rw[Array.getElem?_eq_none h] at Q;cases Q
   have B:∀q∈L,listed.getD q.1 false=false:=λq r=>by
    have:=(R.iff q.1 (b q r)).2 (zw.2 ⟨q,r,rfl⟩)
    rw[zt] at this⊢
    rw[zW (by rw[R.size];exact b q r)] at this⊢
    simpa using this
   have m:∀q∈L,∀l,listed.getD l true=true->l<ops.size->Qd ops 8 q.1 l=false:=λq r l g I=>by
    rw[jv]
    intro v
    have A:ops[l]? =some ops[l]:=zW I
    have:=QG R.down 8 q.1 l _ A (R.down l _ A g) v
    rw[B q r] at this
    cases this
   obtain⟨kj,N⟩:=R.ent j E
   obtain⟨x,K,Z,Y,_,W⟩:=yF N
   obtain⟨ki,O⟩:=R.ent i hi
   obtain⟨o',t,i1,X,_,T⟩:=yF O
   rw[D] at t
   injection t with t
   subst t
   have f:=R.pair
   rw[e] at f
   have J:yw ops j i=true:=(qV.1 f).2.2 j (by simp) i (by simp)
   obtain⟨x',y',p1,p2,z,p4,p5,p6⟩:=yh J
   rw[K] at p1;injection p1 with p1;subst p1
   rw[D] at p2;injection p2 with p2;subst p2
   have G:Qd ops 8 j.1 i.1=false:=by
    rw[jv]
    intro v
    have:=QG R.down 8 j.1 i.1 o D S v
    rw[B j E] at this
    cases this
   have H:QF ops j i x o=true:=by
    rcases z with z|z
    ·rw[G] at z;cases z
    ·exact z
   have before:∀l∈c,∀q,q=i∨q∈j::pre->yw ops l q=true:=λl g q r=>by
    rw[zp] at f
    refine(qV.1 f).2.2 l g q ?_
    rcases r with rfl|r
    ·simp
    ·simp only[zJ];exact .inl r
   have u:∀l,ZY ops l=true->l<ops.size:=λl g=>by
    simp only[ZY,zl] at g
    rcases Nat.lt_or_ge l ops.size with h|h
    ·exact h
    ·have:=g.1;rw[Array.getElem?_eq_none h] at this;simp at this
   refine⟨⟨x,K,H,Z,p6,λl g=>?_,λU=>vNa (T _ U) K,?_,λl g C M=>?_⟩,xKa (post:=post) R D S (c++[j]) pre (by rw[e];simp)⟩
   ·have d:=W l g
    rcases Yu d (b i hi) with h|h|h
    ·exact absurd (h▸g) p5
    ·exfalso
     by_cases p:listed.getD l true=true
     ·rw[m i hi l p (u l d)] at h;cases h
     ·have w:=(R.iff l (u l d)).1 (by simpa using p)
      obtain⟨s,a,rfl⟩:=zw.1 w
      rw[e] at a
      have n:yw ops j s=true∨s=j∨s∈c:=by
       rcases zJ.1 a with a|a
       ·rcases zJ.1 a with a|a
        ·exact .inr (.inr a)
        ·rcases zE.1 a with rfl|a
         ·exact .inr (.inl rfl)
         ·refine .inl ?_
          have:=(qV.1 f).1
          have:=(qV.1 this).2.1
          exact(qg.1 this).1 s a
       ·exact .inl ((qV.1 f).2.2 j (by simp) s a)
      rcases n with n|rfl|n
      ·obtain⟨_,_,_,_,_,_,P,_⟩:=yh n
       exact P g
      ·exact Y g
      ·obtain⟨_,_,_,_,_,F,_,_⟩:=yh (before s n i (.inl rfl))
       rw[F] at h;cases h
    ·exact h
   ·have y:=R.nodup
    rw[e] at y
    simp only[zy,List.map_cons,zp] at y
    have:=(List.nodup_append.1 y).2.1
    have:=(List.nodup_append.1 this).1
    exact(List.nodup_cons.1 this).1
   ·have d:=T l g
    rcases Yu d (b j E) with h|h|h
    ·exact absurd h.symm C
    ·exfalso
     by_cases p:listed.getD l true=true
     ·rw[m j E l p (u l d)] at h;cases h
     ·have w:=(R.iff l (u l d)).1 (by simpa using p)
      obtain⟨s,a,rfl⟩:=zw.1 w
      rw[e] at a
      rcases zJ.1 a with a|a
      ·rcases zJ.1 a with a|a
       ·obtain⟨_,_,_,_,_,F,_,_⟩:=yh (before s a j (.inr (by simp)))
        rw[F] at h;cases h
       ·rcases zE.1 a with rfl|a
        ·exact C rfl
        ·exact M (zw.2 ⟨s,a,rfl⟩)
      ·rcases zE.1 a with rfl|a
       ·exact X g
       ·have:=(qV.1 f).2.1
        obtain⟨_,_,_,_,_,_,P,_⟩:=yh ((qg.1 this).1 s a)
        exact P g
    ·exact h
theorem Vs{φ:Nat->Ob}(Z:Upto φ b)(O:Zu ops 0 ops.toList=true)(G:ops.toList.all (xc N)=true){Q:Exit->Act->World->Prop}:
  ∀ (c:Nat) (listed:Array Bool) (L:List Ent),L.length<=c->Rest ops listed L->∀ {T:Env} {h:List Ob},b<=h.length->(∀q∈L,∀o,ops[q.1]? =some o->cls o.op=3->h[b+q.2.1]? =some .res)->
    wpE P ops b K L T h->∀ {w:World} {g:Gh} {a:Act},Rel N B w g (fill φ h) a T->(∀T' h' w' g' a',K T' h'->(∀j,j<b->h[j]? =some .res->h'[j]? =some .res)->Rel N B w' g' (fill φ h') a' T'->Good B.b w g (fill φ h) w' g' (fill φ h')->Q .normal a' w')->wpAny P .any ops Q c listed a w:=by
 have U:∀(listed:Array Bool) (L:List Ent),Rest ops listed L->∀q∈L,q.1<ops.size:=λlisted L R q hq=>by
  obtain⟨k,hk⟩:=R.ent q hq
  obtain⟨o,J,_⟩:=yF hk
  rcases Nat.lt_or_ge q.1 ops.size with h|h
  ·exact h
  ·rw[Array.getElem?_eq_none h] at J;cases J
 have f:∀(listed:Array Bool) (L:List Ent),Rest ops listed L->Region.ready .any ops listed=[]->L=[]:=by
  intro listed L R Y
  by_cases V:L=[]
  ·exact V
  exfalso
  have hex:∃n,n∈L.map (·.1):=List.exists_mem_of_ne_nil _ (by simpa using V)
  obtain⟨n,hn,α⟩:=least hex
  obtain⟨q,hq,rfl⟩:=zw.1 hn
  have l:=U listed L R q hq
  have:q.1∈Region.ready .any ops listed:=Zx l ((R.iff q.1 l).2 hn) (zW l) λj X=>by
   have θ:=yE ops.toList 0 O q.1 ops[q.1] (by simp[l]) j X
   rw[Nat.zero_add] at θ
   have ρ:j<ops.size:=by omega
   have ν:¬ j∈L.map (·.1):=λh=>by have:=α j h;omega
   have:¬ listed.getD j true=false:=λh=>ν ((R.iff j ρ).1 h)
   rw[zt] at this⊢
   rw[zW (by rw[R.size];omega)] at this⊢
   simpa using this
  rw[Y] at this
  cases this
 intro c
 induction c with
 | zero=>
   intro listed L F R T h hb v k w g a r hQ
   have:L=[]:=zC (by omega)
   subst this
   refine⟨?_,hQ _ _ _ g _ k (λ_ _ h=>h) r (Good.refl r.ok r.hB)⟩
   rw[List.eq_nil_iff_forall_not_mem]
   intro i hi
   obtain⟨J,h2,_⟩:=jR hi
   have:=(R.iff i J).1 h2
   cases this
 | succ c ih=>
   intro listed L F R T h hb v k w g a r hQ
   refine⟨λY=>?_,λi hi=>?_⟩
   ·have:=f listed L R Y
    subst this
    exact hQ _ _ _ g _ k (λ_ _ h=>h) r (Good.refl r.ok r.hB)
   ·obtain⟨J,h2,o,D,h3⟩:=jR hi
    have κ:=(R.iff i J).1 h2
    obtain⟨q,S,rfl⟩:=zw.1 κ
    obtain⟨pre,post,rfl⟩:=List.append_of_mem S
    obtain⟨kq,ξ⟩:=R.ent q S
    obtain⟨o',A,qe,_,_,_⟩:=yF ξ
    rw[D] at A
    injection A with A
    subst A
    have ο:=xKa (post:=post) R D h3 [] pre (by simp)
    have W:=qDa D qe post pre ο (λhc=>v q S o D hc) k
    have hu:Upto φ h.length:=Z.mono hb
    have β:((pre++post).map (·.1)).Nodup/\q.1∉(pre++post).map (·.1):=by
     have:=R.nodup
     simp only[zy,List.map_cons] at this⊢
     rw[List.nodup_append] at this
     obtain⟨n1,n2,n3⟩:=this
     rw[List.nodup_cons] at n2
     refine⟨?_,?_⟩
     ·rw[List.nodup_append]
      exact⟨n1,n2.2,λa ha b hb=>n3 a ha b (by simp[hb])⟩
     ·intro u
      rcases zJ.1 u with u|u
      ·exact n3 _ u q.1 (by simp) rfl
      ·exact n2.1 u
    have z:(pre++post).Sublist (pre++q::post):=List.Sublist.append_left (List.sublist_cons_self q post) pre
    have H:=λm d=>Qf (listed:=listed) (i:=q.1) (by rw[R.size];exact J) m d
    have R':Rest ops (listed.setIfInBounds q.1 true) (pre++post):=by
     refine⟨by simp[R.size],β.1,λm u=>?_,R.pair.sublist z,λp s=>R.ent p (z.subset s),λm p s u j X=>?_⟩
     ·rw[H]
      by_cases e:m=q.1
      ·subst e;simp only[if_true];exact⟨λh=>(by cases h),λh=>absurd h β.2⟩
      ·rw[if_neg e,R.iff m u]
       simp[e]
     ·rw[H] at u⊢
      split
      ·rfl
      ·by_cases e:m=q.1
       ·subst e
        rw[D] at s
        injection s with s
        subst s
        exact h3 j X
       ·rw[if_neg e] at u
        exact R.down m p s u j X
    refine xJa (q:=less q pre) hu Z D ?_ W r λT' h' w' a' k' ⟨g',q1,q2,q3⟩=>?_
    ·rw[zR] at G
     exact G o (by simpa using Array.mem_of_getElem? D)
    ·refine ih _ (pre++post) (by simp at F ⊢;omega) R' (Nat.le_trans hb (yB q3)) (λp s o2 M I=>?_) k' q2 λT2 h2 w2 g2 a2 k2 rr r2 z2=>hQ _ _ _ g2 _ k2 (λj X Y=>rr j X (q1 j (λ_=>by simp only[less];omega) Y)) r2 (q3.trans z2)
     refine q1 _ (λhc=>?_) (v p (z.subset s) o2 M I)
     have t:yw ops p q=true∨yw ops q p=true:=by
      rcases zJ.1 s with s|s
      ·exact .inl ((qV.1 R.pair).2.2 p s q (by simp))
      ·exact .inr ((qg.1 (qV.1 R.pair).2.1).1 p s)
     have V:p.2.1≠q.2.1:=by
      rcases t with t|t
      ·obtain⟨x,y,C,E,_,_,_,e3⟩:=yh t
       rw[M] at C;injection C with C;subst C
       rw[D] at E;injection E with E;subst E
       exact e3 I hc
      ·obtain⟨x,y,C,E,_,_,_,e3⟩:=yh t
       rw[D] at C;injection C with C;subst C
       rw[M] at E;injection E with E;subst E
       exact λe=>e3 hc I e.symm
     simp only[less]
     omega
theorem Jwa{id:Nat}{Q:jF}(F:P.follows .mixedOrders=true)(k:Nat)(b:List Ent)(M:ops.toList.all (xc N)=true)(e:Jy ops k b=true)(kk:wpE P ops h.length (Q .normal) b T (h++List.replicate k .res)):AWp P N B (.region id ops true) Q T h:=λφ y w g a r=>by
 simp only[Jy,zl,zR,decide_eq_true_eq,List.contains_eq_mem,qT] at e
 obtain⟨⟨⟨⟨⟨A,G⟩,x⟩,E⟩,L⟩,j⟩:=e
 have f:=Good.drew (g:=g) r.ok r.hB
 have u:=J9 f.size k f.ok
 have m:=f.trans u
 have s:fill φ (h++List.replicate k .res)=fill φ h++List.replicate k .res:=jC y
 rw[<-s] at m
 have I:Rel N B w.drew g (fill φ (h++List.replicate k .res)) a T:=⟨m.ok,m.size,λi=>AR.le m.le _ _ (r.t i),r.d,r.n⟩
 refine wp_region_any F ?_
 have R:Rest ops (Array.replicate ops.size false) b:=by
  refine⟨by simp,L,λi hi=>?_,yx b A,λq v=>⟨k,x q v⟩,λi o p O=>?_⟩
  ·simp[zt,hi]
   have:=E i hi
   simpa using this
  ·have hi:i<ops.size:=by
    rcases Nat.lt_or_ge i ops.size with h|h
    ·exact h
    ·rw[Array.getElem?_eq_none h] at p;cases p
   simp[zt,hi] at O
 refine Vs (K:=Q .normal) y G M ops.size _ b j R (by simp) (λq v o p D=>?_) kk I λz h' w' g' S k' J H q=>⟨z,h',k',g',λi hi=>?_,H,m.trans q⟩
 ·obtain⟨o',c,_,_,C,_⟩:=yF (x q v)
  rw[p] at c
  injection c with c
  subst c
  have:=C D
  rw[zQ (by omega),Nat.add_sub_cancel_left,List.getElem?_replicate,if_pos this]
 ·have l:=(zd.1 hi).1
  exact J i l (by rw[zH l];exact hi)
end
