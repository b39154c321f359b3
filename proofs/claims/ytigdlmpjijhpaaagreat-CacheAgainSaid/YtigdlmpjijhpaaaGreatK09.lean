import Derived.Test.YtigdlmpjijhpaaaGreatKA
import Derived.Test.YtigdlmpjijhpaaaGreatK08
set_option linter.all false
namespace Go.Proofs.YtigdlmpjijhpaaaGreat.Ax
open Go Go.RowKit
section
variable {P:Program} {N:Nat} {B:Bs} {ops:Array Oper} {T:Env} {h:List Ob} {K K':Env->List Ob->Prop} {b:Nat}
def J1a(ops:Array Oper)(i:Ent)(o:Oper):List Ent->Prop
 | []=>True
 | j ::r=>(∃x,ops[j.1]? =some x/\Q1 ops j i x o=true/\(cls x.op≠2->j.2.2=[])/\(cls x.op=3->cls o.op=3->j.2.1≠i.2.1)/\(∀l∈j.2.2,wi ops l i.1=true)/\
     (j.1∈i.2.2->∀d,x.dst=some d->vz ops x d=false)/\j.1∉r.map (·.1)/\(∀l∈i.2.2,l≠j.1->l∉r.map (·.1)->wi ops l j.1=true))/\J1a ops i o r
def less(i:Ent)(pre:List Ent):Ent:=(i.1,i.2.1,i.2.2.filter λl=> !(pre.map (·.1)).contains l)
theorem xUa{j i:Ent}{x o:Oper}{r:List Ent}(b:Q1 ops j i x o=true)(c:j.1∉r.map (·.1)):Q1 ops j (less i r) x o=true:=by
 simp only[Q1,zq,Bool.or_eq_true,beq_iff_eq,bne_iff_ne,ne_eq,decide_eq_true_eq] at b⊢
 refine⟨b.1,?_⟩
 rcases b.2 with((((h|h)|h)|⟨h,a⟩)|⟨h,a⟩)|⟨h,a⟩
 ·exact .inl (.inl (.inl (.inl (.inl h))))
 ·exact .inl (.inl (.inl (.inl (.inr h))))
 ·exact .inl (.inl (.inl (.inr h)))
 ·refine .inl (.inl (.inr ⟨h,?_⟩))
  have a:j.1∈i.2.2:=by simpa using a
  simp only[less,List.contains_eq_mem,decide_eq_true_eq,zT,a,true_and]
  simpa using c
 ·refine .inl (.inr ⟨h,?_⟩)
  have:i.2.2=[]:=by simpa using a
  simp[less,this]
 ·refine .inr ⟨h,?_⟩
  have:i.2.2=[]:=by simpa using a
  simp[less,this]
theorem qDa{i:Ent}{o:Oper}(n:ops[i.1]? =some o)(d:cls o.op≠2->i.2.2=[])(post:List Ent):∀(pre:List Ent),J1a ops i o pre->∀ {T:Env} {h:List Ob},(cls o.op=3->h[b+i.2.1]? =some .res)->
  wpE P ops b K (pre++i::post) T h->kX P ops b (less i pre) o (wpE P ops b K (pre++post)) T h
 | [],_,T,h,_,k=>by
   simp only[List.nil_append,wpE,n] at k
   have:less i []=i:=by
    have:i.2.2.filter (λl=> !(([]:List Ent).map (·.1)).contains l)=i.2.2:=List.filter_eq_self.2 (by simp)
    simp only[less,this]
   rw[this]
   exact k
 | j::pre,⟨⟨x,u,B,z,v,f5,f6,f7,E⟩,D⟩,T,h,s,k=>by
   simp only[List.cons_append,wpE,u] at k⊢
   have k2:kX P ops b j x (kX P ops b (less i pre) o (wpE P ops b K (pre++post))) T h:=vSa k λF h' f k'=>by
    refine qDa n d post pre D (λm=>f _ (λw=>?_) (s m)) k'
    have:=v w m
    omega
   have c:∀l,l∈(less i (j::pre)).2.2↔l∈i.2.2/\l≠j.1/\l∉pre.map (·.1):=λl=>by
    simp only[less,zT,List.map_cons,List.contains_eq_mem,Bool.not_eq_true',decide_eq_false_iff_not,zx,not_or]
   have a:∀l,l∈(less i pre).2.2↔l∈i.2.2/\l∉pre.map (·.1):=λl=>by
    simp only[less,zT,List.contains_eq_mem,Bool.not_eq_true',decide_eq_false_iff_not]
   have:=jgb (q:=less i pre) (l2:=(less i (j::pre)).2.2) (y:=o) u (xUa B f7) z (λm=>by simp[less,d m]) n
    (λl r=>by
     obtain⟨g,p,t⟩:=(c l).1 r
     exact⟨(a l).2 ⟨g,t⟩,E l g p t⟩) f5 (λl r C=>by
     obtain⟨g,p⟩:=(a l).1 r
     by_cases e:l=j.1
     ·exact e
     ·exact absurd ((c l).2 ⟨g,e,p⟩) C) s v (λA=>f6 ((a _).1 A).1) k2
   exact this
theorem Q2{listed:Array Bool}(a:∀i o,ops[i]? =some o->listed.getD i true=true->∀j∈vW o,listed.getD j false=true):
  ∀(f j i:Nat) (o:Oper),ops[i]? =some o->(∀k∈vW o,listed.getD k false=true)->Qx ops f j i=true->listed.getD j false=true
 | 0,j,i,o,m,g,h=>by
   simp only[Qx,m,List.contains_eq_mem,decide_eq_true_eq] at h
   exact g j h
 | f+1,j,i,o,m,g,h=>by
   simp only[Qx,m,List.contains_eq_mem,Bool.or_eq_true,decide_eq_true_eq,List.any_eq_true,zq] at h
   rcases h with h|⟨k,n,_,h⟩
   ·exact g j h
   ·have c:=g k n
    cases d:ops[k]? with
    | none=>cases f<;>simp[Qx,d] at h
    | some p=>
      have l:listed.getD k true=true:=by
       rw[zV] at c⊢
       cases e:listed[k]? with
       | none=>rfl
       | some b=>rw[e] at c;simpa using c
      exact Q2 a f j k p d (a k p d l) h
theorem Z9:∀(l:List Oper) (i:Nat),Qk ops i l=true->∀(m:Nat) (o:Oper),l[m]? =some o->∀j∈vW o,j<i+m
 | [],_,_,m,o,a,_,_=>by simp at a
 | o::l,i,h,0,p,a,j,b=>by
   simp only[Qk,zq,qb,decide_eq_true_eq] at h
   injection a with a
   subst a
   exact h.1 j b
 | o::l,i,h,m+1,p,a,j,b=>by
   simp only[Qk,zq,qb,decide_eq_true_eq] at h
   have:=Z9 l (i+1) h.2 m p a j b
   omega
theorem yy{listed:Array Bool}{i:Nat}(h:i∈Region.ready .any ops listed):i<ops.size/\listed.getD i true=false/\∃o,ops[i]? =some o/\∀j∈vW o,listed.getD j false=true:=by
 simp only[Region.ready,zT,qW,zq,Bool.not_eq_true'] at h
 obtain⟨b,f,a⟩:=h
 refine⟨b,f,ops[i],qH b,λj c=>?_⟩
 simp only[qH b,Option.map_some,Option.getD_some] at a
 rw[Array.all_eq_true_iff_forall_mem] at a
 simp only[vW,zr,zT] at c
 obtain⟨e,⟨g,d⟩,rfl⟩:=c
 have:=a e (by simpa using g)
 simpa [d] using this
theorem YI{listed:Array Bool}{i:Nat}{o:Oper}(g:i<ops.size)(d:listed.getD i true=false)(b:ops[i]? =some o)(c:∀j∈vW o,listed.getD j false=true):i∈Region.ready .any ops listed:=by
 simp only[Region.ready,zT,qW,zq,Bool.not_eq_true']
 refine⟨g,d,?_⟩
 simp only[b,Option.map_some,Option.getD_some]
 rw[Array.all_eq_true_iff_forall_mem]
 intro e f
 cases a:Region.binds .any e with
 | false=>simp
 | true=>
   have:=c e.on (by simp only[vW,zr,zT];exact⟨e,⟨by simpa using f,a⟩,rfl⟩)
   simpa using this
theorem KX{φ:Nat->Ob}{i:Nat}{o:Oper}(D:ops[i]? =some o)(E:vv N o=true){run:(Env->List Ob->Prop)->Env->List Ob->Prop}(k:kW ops o run K T h){Q:Exit->Act->World->Prop}{w:World}{g:Gh}{a:Act}(r:Rel N B w g (fill φ h) a T)
  {next:Act->World->Prop} (l:run K T h->o.wp P a w next Q) (F:∀A h' w' z,K A h'->Aft N B φ w g h A h' z w'->next z w'):wpOp P ops Q i next a w:=by
 have f:K (jc T o.dst (.v undef)) h->next (a.put o.dst undef) w:=λk=>
  F _ _ _ _ k ⟨g,.refl,wV r (Good.refl r.ok r.hB) (x:= .v undef) rfl E,Good.refl r.ok r.hB⟩
 unfold kW at k
 unfold wpOp
 simp only[D]
 split at k
 ·rename_i m
  rw[if_pos (by simp[Region.wanted,m])]
  exact .inl (l k)
 ·rename_i j want m
  split at k
  ·rename_i d n
   have q:yielded ops a.tmps j=match a.tmps[d]? with|some (.bool b)=>some b|_=>none:=by
    simp only[yielded,n,Option.bind_some]
    rfl
   have c:=r.t d
   rw[zV] at c
   split at k
   ·rename_i b s
    rw[s] at c
    have c:(a.tmps[d]?).getD undef= .bool b:=c
    have C:a.tmps[d]? =some (.bool b):=by
     cases e:a.tmps[d]? with
     | none=>rw[e] at c;cases c
     | some u=>rw[e] at c;exact congrArg some c
    rw[C] at q
    by_cases p:b=want
    ·rw[if_pos (by simp[Region.wanted,m,q,p])]
     exact .inl (l (k.1 p))
    ·rw[if_neg (by simp[Region.wanted,m,q,p])]
     exact f (k.2 p)
   ·rename_i vs s
    rw[s] at c
    have c:(a.tmps[d]?).getD undef= .tuple vs:=c
    have y:yielded ops a.tmps j=none:=by
     rw[q]
     cases e:a.tmps[d]? with
     | none=>rfl
     | some u=>rw[e] at c;have:u= .tuple vs:=c;subst this;rfl
    rw[if_neg (by simp[Region.wanted,m,y])]
    exact f k
   ·exact k.elim
  ·exact k.elim
theorem xVa{φ:Nat->Ob}(H:Upto φ h.length)(z:Upto φ b){q:Ent}{o:Oper}(A:ops[q.1]? =some o)(n:vv N o=true)(k:kX P ops b q o K T h){Q:Exit->Act->World->Prop}{w:World}{g:Gh}{a:Act}(r:Rel N B w g (fill φ h) a T)
  {next:Act->World->Prop} (p:∀c h' w' i,K c h'->(∃g',(∀j,(cls o.op=3->j≠b+q.2.1)->h[j]? =some .res->h'[j]? =some .res)/\Rel N B w' g' (fill φ h') i c/\Good B.b w g (fill φ h) w' g' (fill φ h'))->next i w'):wpOp P ops Q q.1 next a w:=by
 by_cases y:cls o.op=3
 ·rw[wj y] at k
  refine KX A n (K:=λc h'=>K c h') k r (λk=>?_) λc h' w' i k' ⟨g',f,l,d⟩=>p _ _ _ _ k' ⟨g',λj _=>f j,l,d⟩
  unfold JR at k
  split at k
  ·rename_i ob mk D
   obtain⟨dst,op,type,pos,after,guard⟩:=o
   obtain⟨v,w',G,m⟩:=Ym r.ok r.hB r.t D dst type pos after guard
   have s:=m.live
   have u:(fill φ h)[b+q.2.1]? =some .res:=by
    rw[wT,k.1]
    simp only[Option.map_some,KI]
    rw[if_pos (show(Ob.res).isRes=true from rfl),z _ (by omega)]
   obtain⟨g',x,C⟩:=m.at r.ok r.hB u
   rw[<-jj s] at x C
   unfold Oper.wp
   rw[G]
   refine p _ _ _ _ k.2 ⟨g',λj F E=>?_,wV r x C n,x⟩
   rw[zc (λe=>F y e.symm)]
   exact E
  ·exact k.elim
 ·rw[wX y] at k
  exact KX A n (kF k λ_ _ k=>k.2) r (λk=>Kd H n k r λc h' w' i k' ⟨g',f,l,d⟩=>p _ _ _ _ k' ⟨g',λj _=>f j,l,d⟩) λc h' w' i k' ⟨g',f,l,d⟩=>p _ _ _ _ k' ⟨g',λj _=>f j,l,d⟩
theorem Ql:∀(l:List Ent),KT ops l=true->l.Pairwise λx y=>yO ops x y=true
 | [],_=> .nil
 | x::r,h=>by
   simp only[KT,zq,qb] at h
   exact .cons h.1 (Ql r h.2)
theorem yz{p q:Ent}(h:yO ops p q=true):∃x y,ops[p.1]? =some x/\ops[q.1]? =some y/\(Qx ops 8 p.1 q.1=true∨Q1 ops p q x y=true)/\Qx ops 8 q.1 p.1=false/\q.1∉p.2.2/\(cls x.op=3->cls y.op=3->p.2.1≠q.2.1):=by
 unfold yO at h
 split at h
 ·rename_i x y c b
  simp only[zq,Bool.or_eq_true,Bool.not_eq_true',bne_iff_ne,ne_eq,List.contains_eq_mem,decide_eq_false_iff_not] at h
  refine⟨x,y,c,b,h.1.1.1,h.1.1.2,h.1.2,λa d=>?_⟩
  rcases h.2 with(h|h)|h
  ·exact absurd a h
  ·exact absurd d h
  ·exact h
 ·cases h
structure Rest (ops:Array Oper) (listed:Array Bool) (L:List Ent):Prop where
 size:listed.size=ops.size
 nodup:(L.map (·.1)).Nodup
 iff:∀i,i<ops.size->(listed.getD i true=false↔i∈L.map (·.1))
 pair:L.Pairwise λx y=>yO ops x y=true
 ent:∀q∈L,∃k,yra ops k q=true
 down:∀i o,ops[i]? =some o->listed.getD i true=true->∀j∈vW o,listed.getD j false=true
theorem JV{listed:Array Bool}{i:Nat}(hi:i<listed.size)(m:Nat)(d:Bool):(listed.setIfInBounds i true).getD m d=if m=i then true else listed.getD m d:=by
 simp only[zV]
 split
 ·rename_i e;subst e;simp[Array.getElem?_setIfInBounds,hi]
 ·rename_i e;rw[Array.getElem?_setIfInBounds_ne (λh=>e h.symm)]
theorem ZF{k:Nat}{q:Ent}(h:yra ops k q=true):∃o,ops[q.1]? =some o/\(cls o.op≠2->q.2.2=[])/\q.1∉q.2.2/\(cls o.op=3->q.2.1<k)/\∀l∈q.2.2,Z8 ops l=true:=by
 unfold yra at h
 split at h
 ·rename_i o e
  simp only[zq,Bool.or_eq_true,beq_iff_eq,bne_iff_ne,ne_eq,decide_eq_true_eq,Bool.not_eq_true',List.contains_eq_mem,decide_eq_false_iff_not,qb,List.isEmpty_iff] at h
  obtain⟨⟨⟨b,a⟩,f⟩,d⟩:=h
  refine⟨o,e,λc=>?_,f,λc=>?_,d⟩
  ·rcases b with b|b
   ·exact absurd b c
   ·exact b
  ·rcases a with a|a
   ·exact absurd c a
   ·exact a
 ·cases h
theorem YJ{l p:Nat}(h:Z8 ops l=true)(a:p<ops.size):p=l∨Qx ops 8 p l=true∨wi ops l p=true:=by
 simp only[Z8,zq,qb,qW,Bool.or_eq_true,beq_iff_eq] at h
 rcases h.2 p a with(h|h)|h
 ·exact .inl h
 ·exact .inr (.inl h)
 ·exact .inr (.inr h)
theorem vXa{l:Nat}{x:Oper}(h:Z8 ops l=true)(a:ops[l]? =some x):∀d,x.dst=some d->vz ops x d=false:=λd b=>by
 simp only[Z8,zq,a] at h
 have:=h.1.2
 rw[b] at this
 simpa using this
theorem xWa{listed:Array Bool}{L:List Ent}(R:Rest ops listed L){i:Ent}{o:Oper}{post:List Ent}(E:ops[i.1]? =some o)(T:∀j∈vW o,listed.getD j false=true):∀(c pre:List Ent),L=c++pre++i::post->J1a ops i o pre
 | _,[],_=>trivial
 | c,j::pre,e=>by
   have D:j∈L:=by rw[e];simp
   have hi:i∈L:=by rw[e];simp
   have b:∀q∈L,q.1<ops.size:=λq n=>by
    obtain⟨k,hk⟩:=R.ent q n
    obtain⟨o,S,_⟩:=ZF hk
    rcases Nat.lt_or_ge q.1 ops.size with h|h
    ·exact h
    ·rw[Array.getElem?_eq_none h] at S;cases S
   have B:∀q∈L,listed.getD q.1 false=false:=λq n=>by
    have:=(R.iff q.1 (b q n)).2 (zr.2 ⟨q,n,rfl⟩)
    rw[zV] at this⊢
    rw[qH (by rw[R.size];exact b q n)] at this⊢
    simpa using this
   have m:∀q∈L,∀l,listed.getD l true=true->l<ops.size->Qx ops 8 q.1 l=false:=λq n l g K=>by
    rw[jz]
    intro y
    have C:ops[l]? =some ops[l]:=qH K
    have:=Q2 R.down 8 q.1 l _ C (R.down l _ C g) y
    rw[B q n] at this
    cases this
   obtain⟨kj,J⟩:=R.ent j D
   obtain⟨x,F,U,x2,_,V⟩:=ZF J
   obtain⟨ki,H⟩:=R.ent i hi
   obtain⟨o',u,i1,X,_,Q⟩:=ZF H
   rw[E] at u
   injection u with u
   subst u
   have d:=R.pair
   rw[e] at d
   have M:yO ops j i=true:=(qT.1 d).2.2 j (by simp) i (by simp)
   obtain⟨x',y',p1,p2,z,p4,Y,Z⟩:=yz M
   rw[F] at p1;injection p1 with p1;subst p1
   rw[E] at p2;injection p2 with p2;subst p2
   have P:Qx ops 8 j.1 i.1=false:=by
    rw[jz]
    intro y
    have:=Q2 R.down 8 j.1 i.1 o E T y
    rw[B j D] at this
    cases this
   have N:Q1 ops j i x o=true:=by
    rcases z with z|z
    ·rw[P] at z;cases z
    ·exact z
   have before:∀l∈c,∀q,q=i∨q∈j::pre->yO ops l q=true:=λl g q n=>by
    rw[zt] at d
    refine(qT.1 d).2.2 l g q ?_
    rcases n with rfl|n
    ·simp
    ·simp only[zK];exact .inl n
   have t:∀l,Z8 ops l=true->l<ops.size:=λl g=>by
    simp only[Z8,zq] at g
    rcases Nat.lt_or_ge l ops.size with h|h
    ·exact h
    ·have:=g.1;rw[Array.getElem?_eq_none h] at this;simp at this
   refine⟨⟨x,F,N,U,Z,λl g=>?_,λW=>vXa (Q _ W) F,?_,λl g A G=>?_⟩,xWa (post:=post) R E T (c++[j]) pre (by rw[e];simp)⟩
   ·have f:=V l g
    rcases YJ f (b i hi) with h|h|h
    ·exact absurd (h▸g) Y
    ·exfalso
     by_cases p:listed.getD l true=true
     ·rw[m i hi l p (t l f)] at h;cases h
     ·have v:=(R.iff l (t l f)).1 (by simpa using p)
      obtain⟨s,a,rfl⟩:=zr.1 v
      rw[e] at a
      have r:yO ops j s=true∨s=j∨s∈c:=by
       rcases zK.1 a with a|a
       ·rcases zK.1 a with a|a
        ·exact .inr (.inr a)
        ·rcases zx.1 a with rfl|a
         ·exact .inr (.inl rfl)
         ·refine .inl ?_
          have:=(qT.1 d).1
          have:=(qT.1 this).2.1
          exact(zR.1 this).1 s a
       ·exact .inl ((qT.1 d).2.2 j (by simp) s a)
      rcases r with r|rfl|r
      ·obtain⟨_,_,_,_,_,_,I,_⟩:=yz r
       exact I g
      ·exact x2 g
      ·obtain⟨_,_,_,_,_,O,_,_⟩:=yz (before s r i (.inl rfl))
       rw[O] at h;cases h
    ·exact h
   ·have w:=R.nodup
    rw[e] at w
    simp only[zw,List.map_cons,zt] at w
    have:=(List.nodup_append.1 w).2.1
    have:=(List.nodup_append.1 this).1
    exact(List.nodup_cons.1 this).1
   ·have f:=Q l g
    rcases YJ f (b j D) with h|h|h
    ·exact absurd h.symm A
    ·exfalso
     by_cases p:listed.getD l true=true
     ·rw[m j D l p (t l f)] at h;cases h
     ·have v:=(R.iff l (t l f)).1 (by simpa using p)
      obtain⟨s,a,rfl⟩:=zr.1 v
      rw[e] at a
      rcases zK.1 a with a|a
      ·rcases zK.1 a with a|a
       ·obtain⟨_,_,_,_,_,O,_,_⟩:=yz (before s a j (.inr (by simp)))
        rw[O] at h;cases h
       ·rcases zx.1 a with rfl|a
        ·exact A rfl
        ·exact G (zr.2 ⟨s,a,rfl⟩)
      ·rcases zx.1 a with rfl|a
       ·exact X g
       ·have:=(qT.1 d).2.1
        obtain⟨_,_,_,_,_,_,I,_⟩:=yz ((zR.1 this).1 s a)
        exact I g
    ·exact h
theorem qEa{φ:Nat->Ob}(γ:Upto φ b)(I:Qk ops 0 ops.toList=true)(G:ops.toList.all (vv N)=true){Q:Exit->Act->World->Prop}:
  ∀ (f:Nat) (listed:Array Bool) (L:List Ent),L.length<=f->Rest ops listed L->∀ {T:Env} {h:List Ob},b<=h.length->(∀q∈L,∀o,ops[q.1]? =some o->cls o.op=3->h[b+q.2.1]? =some .res)->
    wpE P ops b K L T h->∀ {w:World} {g:Gh} {a:Act},Rel N B w g (fill φ h) a T->(∀T' h' w' g' a',K T' h'->(∀j,j<b->h[j]? =some .res->h'[j]? =some .res)->Rel N B w' g' (fill φ h') a' T'->Good B.b w g (fill φ h) w' g' (fill φ h')->Q .normal a' w')->wpAny P .any ops Q f listed a w:=by
 have W:∀(listed:Array Bool) (L:List Ent),Rest ops listed L->∀q∈L,q.1<ops.size:=λlisted L R q hq=>by
  obtain⟨k,hk⟩:=R.ent q hq
  obtain⟨o,O,_⟩:=ZF hk
  rcases Nat.lt_or_ge q.1 ops.size with h|h
  ·exact h
  ·rw[Array.getElem?_eq_none h] at O;cases O
 have c:∀(listed:Array Bool) (L:List Ent),Rest ops listed L->Region.ready .any ops listed=[]->L=[]:=by
  intro listed L R Z
  by_cases J:L=[]
  ·exact J
  exfalso
  have hex:∃n,n∈L.map (·.1):=List.exists_mem_of_ne_nil _ (by simpa using J)
  obtain⟨n,hn,β⟩:=least hex
  obtain⟨q,hq,rfl⟩:=zr.1 hn
  have s:=W listed L R q hq
  have:q.1∈Region.ready .any ops listed:=YI s ((R.iff q.1 s).2 hn) (qH s) λj X=>by
   have η:=Z9 ops.toList 0 I q.1 ops[q.1] (by simp[s]) j X
   rw[Nat.zero_add] at η
   have θ:j<ops.size:=by omega
   have ρ:¬ j∈L.map (·.1):=λh=>by have:=β j h;omega
   have:¬ listed.getD j true=false:=λh=>ρ ((R.iff j θ).1 h)
   rw[zV] at this⊢
   rw[qH (by rw[R.size];omega)] at this⊢
   simpa using this
  rw[Z] at this
  cases this
 intro f
 induction f with
 | zero=>
   intro listed L H R T h Y v k w g a r hQ
   have:L=[]:=zF (by omega)
   subst this
   refine⟨?_,hQ _ _ _ g _ k (λ_ _ h=>h) r (Good.refl r.ok r.hB)⟩
   rw[List.eq_nil_iff_forall_not_mem]
   intro i hi
   obtain⟨O,h2,_⟩:=yy hi
   have:=(R.iff i O).1 h2
   cases this
 | succ f ih=>
   intro listed L H R T h Y v k w g a r hQ
   refine⟨λZ=>?_,λi hi=>?_⟩
   ·have:=c listed L R Z
    subst this
    exact hQ _ _ _ g _ k (λ_ _ h=>h) r (Good.refl r.ok r.hB)
   ·obtain⟨O,h2,o,C,h3⟩:=yy hi
    have κ:=(R.iff i O).1 h2
    obtain⟨q,V,rfl⟩:=zr.1 κ
    obtain⟨pre,post,rfl⟩:=List.append_of_mem V
    obtain⟨kq,ν⟩:=R.ent q V
    obtain⟨o',E,qe,_,_,_⟩:=ZF ν
    rw[C] at E
    injection E with E
    subst E
    have ο:=xWa (post:=post) R C h3 [] pre (by simp)
    have M:=qDa C qe post pre ο (λhc=>v q V o C hc) k
    have hu:Upto φ h.length:=γ.mono Y
    have α:((pre++post).map (·.1)).Nodup/\q.1∉(pre++post).map (·.1):=by
     have:=R.nodup
     simp only[zw,List.map_cons] at this⊢
     rw[List.nodup_append] at this
     obtain⟨n1,n2,n3⟩:=this
     rw[List.nodup_cons] at n2
     refine⟨?_,?_⟩
     ·rw[List.nodup_append]
      exact⟨n1,n2.2,λa ha b Y=>n3 a ha b (by simp[Y])⟩
     ·intro u
      rcases zK.1 u with u|u
      ·exact n3 _ u q.1 (by simp) rfl
      ·exact n2.1 u
    have t:(pre++post).Sublist (pre++q::post):=List.Sublist.append_left (List.sublist_cons_self q post) pre
    have F:=λm d=>JV (listed:=listed) (i:=q.1) (by rw[R.size];exact O) m d
    have R':Rest ops (listed.setIfInBounds q.1 true) (pre++post):=by
     refine⟨by simp[R.size],α.1,λm u=>?_,R.pair.sublist t,λp l=>R.ent p (t.subset l),λm p l u j X=>?_⟩
     ·rw[F]
      by_cases e:m=q.1
      ·subst e;simp only[if_true];exact⟨λh=>(by cases h),λh=>absurd h α.2⟩
      ·rw[if_neg e,R.iff m u]
       simp[e]
     ·rw[F] at u⊢
      split
      ·rfl
      ·by_cases e:m=q.1
       ·subst e
        rw[C] at l
        injection l with l
        subst l
        exact h3 j X
       ·rw[if_neg e] at u
        exact R.down m p l u j X
    refine xVa (q:=less q pre) hu γ C ?_ M r λT' h' w' a' k' ⟨g',q1,q2,q3⟩=>?_
    ·rw[qb] at G
     exact G o (by simpa using Array.mem_of_getElem? C)
    ·refine ih _ (pre++post) (by simp at H ⊢;omega) R' (Nat.le_trans Y (ZC q3)) (λp l o2 S U=>?_) k' q2 λT2 h2 w2 g2 a2 k2 rr r2 z2=>hQ _ _ _ g2 _ k2 (λj X Z=>rr j X (q1 j (λ_=>by simp only[less];omega) Z)) r2 (q3.trans z2)
     refine q1 _ (λhc=>?_) (v p (t.subset l) o2 S U)
     have z:yO ops p q=true∨yO ops q p=true:=by
      rcases zK.1 l with l|l
      ·exact .inl ((qT.1 R.pair).2.2 p l q (by simp))
      ·exact .inr ((zR.1 (qT.1 R.pair).2.1).1 p l)
     have J:p.2.1≠q.2.1:=by
      rcases z with z|z
      ·obtain⟨x,y,A,D,_,_,_,e3⟩:=yz z
       rw[S] at A;injection A with A;subst A
       rw[C] at D;injection D with D;subst D
       exact e3 U hc
      ·obtain⟨x,y,A,D,_,_,_,e3⟩:=yz z
       rw[C] at A;injection A with A;subst A
       rw[S] at D;injection D with D;subst D
       exact λe=>e3 hc U e.symm
     simp only[less]
     omega
theorem J2a{id:Nat}{Q:xV}(D:P.follows .mixedOrders=true)(k:Nat)(b:List Ent)(E:ops.toList.all (vv N)=true)(e:YE ops k b=true)(kk:wpE P ops h.length (Q .normal) b T (h++List.replicate k .res)):AWp P N B (.region id ops true) Q T h:=λφ x w g a r=>by
 simp only[YE,zq,qb,decide_eq_true_eq,List.contains_eq_mem,qW] at e
 obtain⟨⟨⟨⟨⟨O,C⟩,y⟩,H⟩,G⟩,l⟩:=e
 have f:=Good.drew (g:=g) r.ok r.hB
 have v:=VH f.size k f.ok
 have m:=f.trans v
 have u:fill φ (h++List.replicate k .res)=fill φ h++List.replicate k .res:=jW x
 rw[<-u] at m
 have A:Rel N B w.drew g (fill φ (h++List.replicate k .res)) a T:=⟨m.ok,m.size,λi=>AR.le m.le _ _ (r.t i),r.d,r.n⟩
 refine wp_region_any D ?_
 have R:Rest ops (Array.replicate ops.size false) b:=by
  refine⟨by simp,G,λi hi=>?_,Ql b O,λq s=>⟨k,y q s⟩,λi o p L=>?_⟩
  ·simp[zV,hi]
   have:=H i hi
   simpa using this
  ·have hi:i<ops.size:=by
    rcases Nat.lt_or_ge i ops.size with h|h
    ·exact h
    ·rw[Array.getElem?_eq_none h] at p;cases p
   simp[zV,hi] at L
 refine qEa (K:=Q .normal) x C E ops.size _ b l R (by simp) (λq s o p I=>?_) kk A λF h' w' g' S k' J M q=>⟨F,h',k',g',λi hi=>?_,M,m.trans q⟩
 ·obtain⟨o',c,_,_,z,_⟩:=ZF (y q s)
  rw[p] at c
  injection c with c
  subst c
  have:=z I
  rw[zX (by omega),Nat.add_sub_cancel_left,List.getElem?_replicate,if_pos this]
 ·have j:=(zd.1 hi).1
  exact J i j (by rw[zO j];exact hi)
end
