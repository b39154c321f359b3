import Derived.Test.YtigdlmpjijhpaaaGreatKA
import Derived.Test.YtigdlmpjijhpaaaGreatK08
set_option linter.all false
namespace Go.Proofs.YtigdlmpjijhpaaaGreat.Ax
open Go Go.RowKit
section
variable {P:Program} {N:Nat} {B:Bs} {ops:Array Oper} {T:Env} {h:List Ob} {K K':Env->List Ob->Prop} {b:Nat}
def yFa(ops:Array Oper)(i:Ent)(o:Oper):List Ent->Prop
 | []=>True
 | j ::r=>(∃x,ops[j.1]? =some x/\ZN ops j i x o=true/\(cls x.op≠2->j.2.2=[])/\(cls x.op=3->cls o.op=3->j.2.1≠i.2.1)/\(∀l∈j.2.2,vi ops l i.1=true)/\
     (j.1∈i.2.2->∀d,x.dst=some d->kD ops x d=false)/\j.1∉r.map (·.1)/\(∀l∈i.2.2,l≠j.1->l∉r.map (·.1)->vi ops l j.1=true))/\yFa ops i o r
def less(i:Ent)(pre:List Ent):Ent:=(i.1,i.2.1,i.2.2.filter λl=> !(pre.map (·.1)).contains l)
theorem qFa{j i:Ent}{x o:Oper}{r:List Ent}(b:ZN ops j i x o=true)(c:j.1∉r.map (·.1)):ZN ops j (less i r) x o=true:=by
 simp only[ZN,zj,Bool.or_eq_true,beq_iff_eq,bne_iff_ne,ne_eq,decide_eq_true_eq] at b⊢
 refine⟨b.1,?_⟩
 rcases b.2 with((((h|h)|h)|⟨h,a⟩)|⟨h,a⟩)|⟨h,a⟩
 ·exact .inl (.inl (.inl (.inl (.inl h))))
 ·exact .inl (.inl (.inl (.inl (.inr h))))
 ·exact .inl (.inl (.inl (.inr h)))
 ·refine .inl (.inl (.inr ⟨h,?_⟩))
  have a:j.1∈i.2.2:=by simpa using a
  simp only[less,List.contains_eq_mem,decide_eq_true_eq,qw,a,true_and]
  simpa using c
 ·refine .inl (.inr ⟨h,?_⟩)
  have:i.2.2=[]:=by simpa using a
  simp[less,this]
 ·refine .inr ⟨h,?_⟩
  have:i.2.2=[]:=by simpa using a
  simp[less,this]
theorem YF{i:Ent}{o:Oper}(r:ops[i.1]? =some o)(f:cls o.op≠2->i.2.2=[])(post:List Ent):∀(pre:List Ent),yFa ops i o pre->∀ {T:Env} {h:List Ob},(cls o.op=3->h[b+i.2.1]? =some .res)->
  wpE P ops b K (pre++i::post) T h->xZ P ops b (less i pre) o (wpE P ops b K (pre++post)) T h
 | [],_,T,h,_,k=>by
   simp only[List.nil_append,wpE,r] at k
   have:less i []=i:=by
    have:i.2.2.filter (λl=> !(([]:List Ent).map (·.1)).contains l)=i.2.2:=List.filter_eq_self.2 (by simp)
    simp only[less,this]
   rw[this]
   exact k
 | j::pre,⟨⟨x,t,E,A,v,f5,f6,f7,B⟩,C⟩,T,h,u,k=>by
   simp only[List.cons_append,wpE,t] at k⊢
   have k2:xZ P ops b j x (xZ P ops b (less i pre) o (wpE P ops b K (pre++post))) T h:=xta k λF h' d k'=>by
    refine YF r f post pre C (λg=>d _ (λw=>?_) (u g)) k'
    have:=v w g
    omega
   have c:∀l,l∈(less i (j::pre)).2.2↔l∈i.2.2/\l≠j.1/\l∉pre.map (·.1):=λl=>by
    simp only[less,qw,List.map_cons,List.contains_eq_mem,Bool.not_eq_true',decide_eq_false_iff_not,zH,not_or]
   have a:∀l,l∈(less i pre).2.2↔l∈i.2.2/\l∉pre.map (·.1):=λl=>by
    simp only[less,qw,List.contains_eq_mem,Bool.not_eq_true',decide_eq_false_iff_not]
   have:=Vaa (q:=less i pre) (l2:=(less i (j::pre)).2.2) (y:=o) t (qFa E f7) A (λg=>by simp[less,f g]) r
    (λl p=>by
     obtain⟨m,n,s⟩:=(c l).1 p
     exact⟨(a l).2 ⟨m,s⟩,B l m n s⟩) f5 (λl p D=>by
     obtain⟨m,n⟩:=(a l).1 p
     by_cases e:l=j.1
     ·exact e
     ·exact absurd ((c l).2 ⟨m,e,n⟩) D) u v (λz=>f6 ((a _).1 z).1) k2
   exact this
theorem ZO{listed:Array Bool}(a:∀i o,ops[i]? =some o->listed.getD i true=true->∀j∈xH o,listed.getD j false=true):
  ∀(f j i:Nat) (o:Oper),ops[i]? =some o->(∀k∈xH o,listed.getD k false=true)->Zp ops f j i=true->listed.getD j false=true
 | 0,j,i,o,m,g,h=>by
   simp only[Zp,m,List.contains_eq_mem,decide_eq_true_eq] at h
   exact g j h
 | f+1,j,i,o,m,g,h=>by
   simp only[Zp,m,List.contains_eq_mem,Bool.or_eq_true,decide_eq_true_eq,List.any_eq_true,zj] at h
   rcases h with h|⟨k,n,_,h⟩
   ·exact g j h
   ·have d:=g k n
    cases c:ops[k]? with
    | none=>cases f<;>simp[Zp,c] at h
    | some p=>
      have l:listed.getD k true=true:=by
       rw[zt] at d⊢
       cases e:listed[k]? with
       | none=>rfl
       | some b=>rw[e] at d;simpa using d
      exact ZO a f j k p c (a k p c l) h
theorem QA:∀(l:List Oper) (i:Nat),JL ops i l=true->∀(m:Nat) (o:Oper),l[m]? =some o->∀j∈xH o,j<i+m
 | [],_,_,m,o,a,_,_=>by simp at a
 | o::l,i,h,0,p,a,j,b=>by
   simp only[JL,zj,zL,decide_eq_true_eq] at h
   injection a with a
   subst a
   exact h.1 j b
 | o::l,i,h,m+1,p,a,j,b=>by
   simp only[JL,zj,zL,decide_eq_true_eq] at h
   have:=QA l (i+1) h.2 m p a j b
   omega
theorem xJ{listed:Array Bool}{i:Nat}(h:i∈Region.ready .any ops listed):i<ops.size/\listed.getD i true=false/\∃o,ops[i]? =some o/\∀j∈xH o,listed.getD j false=true:=by
 simp only[Region.ready,qw,jg,zj,Bool.not_eq_true'] at h
 obtain⟨b,d,a⟩:=h
 refine⟨b,d,ops[i],zT b,λj c=>?_⟩
 simp only[zT b,Option.map_some,Option.getD_some] at a
 rw[Array.all_eq_true_iff_forall_mem] at a
 simp only[xH,zx,qw] at c
 obtain⟨e,⟨f,g⟩,rfl⟩:=c
 have:=a e (by simpa using f)
 simpa [g] using this
theorem QB{listed:Array Bool}{i:Nat}{o:Oper}(f:i<ops.size)(a:listed.getD i true=false)(g:ops[i]? =some o)(b:∀j∈xH o,listed.getD j false=true):i∈Region.ready .any ops listed:=by
 simp only[Region.ready,qw,jg,zj,Bool.not_eq_true']
 refine⟨f,a,?_⟩
 simp only[g,Option.map_some,Option.getD_some]
 rw[Array.all_eq_true_iff_forall_mem]
 intro e c
 cases d:Region.binds .any e with
 | false=>simp
 | true=>
   have:=b e.on (by simp only[xH,zx,qw];exact⟨e,⟨by simpa using c,d⟩,rfl⟩)
   simpa using this
theorem Xq{φ:Nat->Ob}{i:Nat}{o:Oper}(G:ops[i]? =some o)(D:kC N o=true){run:(Env->List Ob->Prop)->Env->List Ob->Prop}(k:xY ops o run K T h){Q:Exit->Act->World->Prop}{w:World}{g:Gh}{a:Act}(r:Rel N B w g (fill φ h) a T)
  {next:Act->World->Prop} (l:run K T h->o.wp P a w next Q) (F:∀A h' w' C,K A h'->Aft N B φ w g h A h' C w'->next C w'):wpOp P ops Q i next a w:=by
 have f:K (qK T o.dst (.v undef)) h->next (a.put o.dst undef) w:=λk=>
  F _ _ _ _ k ⟨g,.refl,kv r (Good.refl r.ok r.hB) (x:= .v undef) rfl D,Good.refl r.ok r.hB⟩
 unfold xY at k
 unfold wpOp
 simp only[G]
 split at k
 ·rename_i m
  rw[if_pos (by simp[Region.wanted,m])]
  exact .inl (l k)
 ·rename_i j n m
  split at k
  ·rename_i d p
   have s:yielded ops a.tmps j=match a.tmps[d]? with|some (.bool b)=>some b|_=>none:=by
    simp only[yielded,p,Option.bind_some]
    rfl
   have c:=r.t d
   rw[zt] at c
   split at k
   ·rename_i b y
    rw[y] at c
    have c:(a.tmps[d]?).getD undef= .bool b:=c
    have E:a.tmps[d]? =some (.bool b):=by
     cases e:a.tmps[d]? with
     | none=>rw[e] at c;cases c
     | some u=>rw[e] at c;exact congrArg some c
    rw[E] at s
    by_cases q:b=n
    ·rw[if_pos (by simp[Region.wanted,m,s,q])]
     exact .inl (l (k.1 q))
    ·rw[if_neg (by simp[Region.wanted,m,s,q])]
     exact f (k.2 q)
   ·rename_i vs y
    rw[y] at c
    have c:(a.tmps[d]?).getD undef= .tuple vs:=c
    have z:yielded ops a.tmps j=none:=by
     rw[s]
     cases e:a.tmps[d]? with
     | none=>rfl
     | some u=>rw[e] at c;have:u= .tuple vs:=c;subst this;rfl
    rw[if_neg (by simp[Region.wanted,m,z])]
    exact f k
   ·exact k.elim
  ·exact k.elim
theorem qGa{φ:Nat->Ob}(H:Upto φ h.length)(u:Upto φ b){q:Ent}{o:Oper}(A:ops[q.1]? =some o)(p:kC N o=true)(k:xZ P ops b q o K T h){Q:Exit->Act->World->Prop}{w:World}{g:Gh}{a:Act}(r:Rel N B w g (fill φ h) a T)
  {next:Act->World->Prop} (n:∀c h' w' l,K c h'->(∃g',(∀j,(cls o.op=3->j≠b+q.2.1)->h[j]? =some .res->h'[j]? =some .res)/\Rel N B w' g' (fill φ h') l c/\Good B.b w g (fill φ h) w' g' (fill φ h'))->next l w'):wpOp P ops Q q.1 next a w:=by
 by_cases s:cls o.op=3
 ·rw[vj s] at k
  refine Xq A p (K:=λc h'=>K c h') k r (λk=>?_) λc h' w' l k' ⟨g',i,f,d⟩=>n _ _ _ _ k' ⟨g',λj _=>i j,f,d⟩
  unfold Qw at k
  split at k
  ·rename_i ob mk D
   obtain⟨dst,op,type,pos,after,guard⟩:=o
   obtain⟨v,w',F,m⟩:=Vt r.ok r.hB r.t D dst type pos after guard
   have y:=m.live
   have z:(fill φ h)[b+q.2.1]? =some .res:=by
    rw[vT,k.1]
    simp only[Option.map_some,Xc]
    rw[if_pos (show(Ob.res).isRes=true from rfl),u _ (by omega)]
   obtain⟨g',x,C⟩:=m.at r.ok r.hB z
   rw[<-jB y] at x C
   unfold Oper.wp
   rw[F]
   refine n _ _ _ _ k.2 ⟨g',λj G E=>?_,kv r x C p,x⟩
   rw[zc (λe=>G s e.symm)]
   exact E
  ·exact k.elim
 ·rw[vW s] at k
  exact Xq A p (xG k λ_ _ k=>k.2) r (λk=>VA H p k r λc h' w' l k' ⟨g',i,f,d⟩=>n _ _ _ _ k' ⟨g',λj _=>i j,f,d⟩) λc h' w' l k' ⟨g',i,f,d⟩=>n _ _ _ _ k' ⟨g',λj _=>i j,f,d⟩
theorem wG:∀(l:List Ent),Xn ops l=true->l.Pairwise λx y=>wF ops x y=true
 | [],_=> .nil
 | x::r,h=>by
   simp only[Xn,zj,zL] at h
   exact .cons h.1 (wG r h.2)
theorem wx{p q:Ent}(h:wF ops p q=true):∃x y,ops[p.1]? =some x/\ops[q.1]? =some y/\(Zp ops 8 p.1 q.1=true∨ZN ops p q x y=true)/\Zp ops 8 q.1 p.1=false/\q.1∉p.2.2/\(cls x.op=3->cls y.op=3->p.2.1≠q.2.1):=by
 unfold wF at h
 split at h
 ·rename_i x y c a
  simp only[zj,Bool.or_eq_true,Bool.not_eq_true',bne_iff_ne,ne_eq,List.contains_eq_mem,decide_eq_false_iff_not] at h
  refine⟨x,y,c,a,h.1.1.1,h.1.1.2,h.1.2,λb d=>?_⟩
  rcases h.2 with(h|h)|h
  ·exact absurd b h
  ·exact absurd d h
  ·exact h
 ·cases h
structure Rest (ops:Array Oper) (listed:Array Bool) (L:List Ent):Prop where
 size:listed.size=ops.size
 nodup:(L.map (·.1)).Nodup
 iff:∀i,i<ops.size->(listed.getD i true=false↔i∈L.map (·.1))
 pair:L.Pairwise λx y=>wF ops x y=true
 ent:∀q∈L,∃k,kOa ops k q=true
 down:∀i o,ops[i]? =some o->listed.getD i true=true->∀j∈xH o,listed.getD j false=true
theorem qHa{listed:Array Bool}{i:Nat}(hi:i<listed.size)(m:Nat)(d:Bool):(listed.setIfInBounds i true).getD m d=if m=i then true else listed.getD m d:=by
 simp only[zt]
 split
 ·rename_i e;subst e;simp[Array.getElem?_setIfInBounds,hi]
 ·rename_i e;rw[Array.getElem?_setIfInBounds_ne (λh=>e h.symm)]
theorem wN{k:Nat}{q:Ent}(h:kOa ops k q=true):∃o,ops[q.1]? =some o/\(cls o.op≠2->q.2.2=[])/\q.1∉q.2.2/\(cls o.op=3->q.2.1<k)/\∀l∈q.2.2,Zb ops l=true:=by
 unfold kOa at h
 split at h
 ·rename_i o e
  simp only[zj,Bool.or_eq_true,beq_iff_eq,bne_iff_ne,ne_eq,decide_eq_true_eq,Bool.not_eq_true',List.contains_eq_mem,decide_eq_false_iff_not,zL,List.isEmpty_iff] at h
  obtain⟨⟨⟨b,a⟩,d⟩,f⟩:=h
  refine⟨o,e,λc=>?_,d,λc=>?_,f⟩
  ·rcases b with b|b
   ·exact absurd b c
   ·exact b
  ·rcases a with a|a
   ·exact absurd c a
   ·exact a
 ·cases h
theorem VJ{l p:Nat}(h:Zb ops l=true)(a:p<ops.size):p=l∨Zp ops 8 p l=true∨vi ops l p=true:=by
 simp only[Zb,zj,zL,jg,Bool.or_eq_true,beq_iff_eq] at h
 rcases h.2 p a with(h|h)|h
 ·exact .inl h
 ·exact .inr (.inl h)
 ·exact .inr (.inr h)
theorem xya{l:Nat}{x:Oper}(h:Zb ops l=true)(b:ops[l]? =some x):∀d,x.dst=some d->kD ops x d=false:=λd a=>by
 simp only[Zb,zj,b] at h
 have:=h.1.2
 rw[a] at this
 simpa using this
theorem qIa{listed:Array Bool}{L:List Ent}(R:Rest ops listed L){i:Ent}{o:Oper}{post:List Ent}(D:ops[i.1]? =some o)(Q:∀j∈xH o,listed.getD j false=true):∀(c pre:List Ent),L=c++pre++i::post->yFa ops i o pre
 | _,[],_=>trivial
 | c,j::pre,e=>by
   have E:j∈L:=by rw[e];simp
   have hi:i∈L:=by rw[e];simp
   have b:∀q∈L,q.1<ops.size:=λq n=>by
    obtain⟨k,Z⟩:=R.ent q n
    obtain⟨o,T,_⟩:=wN Z
    rcases Nat.lt_or_ge q.1 ops.size with h|h
    ·exact h
    ·rw[Array.getElem?_eq_none h] at T;cases T
   have A:∀q∈L,listed.getD q.1 false=false:=λq n=>by
    have:=(R.iff q.1 (b q n)).2 (zx.2 ⟨q,n,rfl⟩)
    rw[zt] at this⊢
    rw[zT (by rw[R.size];exact b q n)] at this⊢
    simpa using this
   have m:∀q∈L,∀l,listed.getD l true=true->l<ops.size->Zp ops 8 q.1 l=false:=λq n l d N=>by
    rw[Bool.eq_false_iff]
    intro w
    have C:ops[l]? =some ops[l]:=zT N
    have:=ZO R.down 8 q.1 l _ C (R.down l _ C d) w
    rw[A q n] at this
    cases this
   obtain⟨kj,K⟩:=R.ent j E
   obtain⟨x,F,x1,X,_,x4⟩:=wN K
   obtain⟨ki,I⟩:=R.ent i hi
   obtain⟨o',t,i1,U,_,S⟩:=wN I
   rw[D] at t
   injection t with t
   subst t
   have f:=R.pair
   rw[e] at f
   have P:wF ops j i=true:=(qG.1 f).2.2 j (by simp) i (by simp)
   obtain⟨x',y',p1,p2,z,p4,Y,W⟩:=wx P
   rw[F] at p1;injection p1 with p1;subst p1
   rw[D] at p2;injection p2 with p2;subst p2
   have G:Zp ops 8 j.1 i.1=false:=by
    rw[Bool.eq_false_iff]
    intro w
    have:=ZO R.down 8 j.1 i.1 o D Q w
    rw[A j E] at this
    cases this
   have H:ZN ops j i x o=true:=by
    rcases z with z|z
    ·rw[G] at z;cases z
    ·exact z
   have before:∀l∈c,∀q,q=i∨q∈j::pre->wF ops l q=true:=λl d q n=>by
    rw[zn] at f
    refine(qG.1 f).2.2 l d q ?_
    rcases n with rfl|n
    ·simp
    ·simp only[zK];exact .inl n
   have u:∀l,Zb ops l=true->l<ops.size:=λl d=>by
    simp only[Zb,zj] at d
    rcases Nat.lt_or_ge l ops.size with h|h
    ·exact h
    ·have:=d.1;rw[Array.getElem?_eq_none h] at this;simp at this
   refine⟨⟨x,F,H,x1,W,λl d=>?_,λV=>xya (S _ V) F,?_,λl d B O=>?_⟩,qIa (post:=post) R D Q (c++[j]) pre (by rw[e];simp)⟩
   ·have g:=x4 l d
    rcases VJ g (b i hi) with h|h|h
    ·exact absurd (h▸d) Y
    ·exfalso
     by_cases r:listed.getD l true=true
     ·rw[m i hi l r (u l g)] at h;cases h
     ·have y:=(R.iff l (u l g)).1 (by simpa using r)
      obtain⟨s,a,rfl⟩:=zx.1 y
      rw[e] at a
      have p:wF ops j s=true∨s=j∨s∈c:=by
       rcases zK.1 a with a|a
       ·rcases zK.1 a with a|a
        ·exact .inr (.inr a)
        ·rcases zH.1 a with rfl|a
         ·exact .inr (.inl rfl)
         ·refine .inl ?_
          have:=(qG.1 f).1
          have:=(qG.1 this).2.1
          exact(qu.1 this).1 s a
       ·exact .inl ((qG.1 f).2.2 j (by simp) s a)
      rcases p with p|rfl|p
      ·obtain⟨_,_,_,_,_,_,J,_⟩:=wx p
       exact J d
      ·exact X d
      ·obtain⟨_,_,_,_,_,M,_,_⟩:=wx (before s p i (.inl rfl))
       rw[M] at h;cases h
    ·exact h
   ·have v:=R.nodup
    rw[e] at v
    simp only[zy,List.map_cons,zn] at v
    have:=(List.nodup_append.1 v).2.1
    have:=(List.nodup_append.1 this).1
    exact(List.nodup_cons.1 this).1
   ·have g:=S l d
    rcases VJ g (b j E) with h|h|h
    ·exact absurd h.symm B
    ·exfalso
     by_cases r:listed.getD l true=true
     ·rw[m j E l r (u l g)] at h;cases h
     ·have y:=(R.iff l (u l g)).1 (by simpa using r)
      obtain⟨s,a,rfl⟩:=zx.1 y
      rw[e] at a
      rcases zK.1 a with a|a
      ·rcases zK.1 a with a|a
       ·obtain⟨_,_,_,_,_,M,_,_⟩:=wx (before s a j (.inr (by simp)))
        rw[M] at h;cases h
       ·rcases zH.1 a with rfl|a
        ·exact B rfl
        ·exact O (zx.2 ⟨s,a,rfl⟩)
      ·rcases zH.1 a with rfl|a
       ·exact U d
       ·have:=(qG.1 f).2.1
        obtain⟨_,_,_,_,_,_,J,_⟩:=wx ((qu.1 this).1 s a)
        exact J d
    ·exact h
theorem X0{φ:Nat->Ob}(Y:Upto φ b)(W:JL ops 0 ops.toList=true)(H:ops.toList.all (kC N)=true){Q:Exit->Act->World->Prop}:
  ∀ (c:Nat) (listed:Array Bool) (L:List Ent),L.length<=c->Rest ops listed L->∀ {T:Env} {h:List Ob},b<=h.length->(∀q∈L,∀o,ops[q.1]? =some o->cls o.op=3->h[b+q.2.1]? =some .res)->
    wpE P ops b K L T h->∀ {w:World} {g:Gh} {a:Act},Rel N B w g (fill φ h) a T->(∀T' h' w' g' a',K T' h'->(∀j,j<b->h[j]? =some .res->h'[j]? =some .res)->Rel N B w' g' (fill φ h') a' T'->Good B.b w g (fill φ h) w' g' (fill φ h')->Q .normal a' w')->wpAny P .any ops Q c listed a w:=by
 have O:∀(listed:Array Bool) (L:List Ent),Rest ops listed L->∀q∈L,q.1<ops.size:=λlisted L R q hq=>by
  obtain⟨k,hk⟩:=R.ent q hq
  obtain⟨o,V,_⟩:=wN hk
  rcases Nat.lt_or_ge q.1 ops.size with h|h
  ·exact h
  ·rw[Array.getElem?_eq_none h] at V;cases V
 have f:∀(listed:Array Bool) (L:List Ent),Rest ops listed L->Region.ready .any ops listed=[]->L=[]:=by
  intro listed L R hr
  by_cases U:L=[]
  ·exact U
  exfalso
  have hex:∃n,n∈L.map (·.1):=List.exists_mem_of_ne_nil _ (by simpa using U)
  obtain⟨n,hn,Z⟩:=least hex
  obtain⟨q,hq,rfl⟩:=zx.1 hn
  have l:=O listed L R q hq
  have:q.1∈Region.ready .any ops listed:=QB l ((R.iff q.1 l).2 hn) (zT l) λj X=>by
   have κ:=QA ops.toList 0 W q.1 ops[q.1] (by simp[l]) j X
   rw[Nat.zero_add] at κ
   have μ:j<ops.size:=by omega
   have σ:¬ j∈L.map (·.1):=λh=>by have:=Z j h;omega
   have:¬ listed.getD j true=false:=λh=>σ ((R.iff j μ).1 h)
   rw[zt] at this⊢
   rw[zT (by rw[R.size];omega)] at this⊢
   simpa using this
  rw[hr] at this
  cases this
 intro c
 induction c with
 | zero=>
   intro listed L F R T h hb t k w g a r hQ
   have:L=[]:=zz (by omega)
   subst this
   refine⟨?_,hQ _ _ _ g _ k (λ_ _ h=>h) r (Good.refl r.ok r.hB)⟩
   rw[List.eq_nil_iff_forall_not_mem]
   intro i hi
   obtain⟨V,h2,_⟩:=xJ hi
   have:=(R.iff i V).1 h2
   cases this
 | succ c ih=>
   intro listed L F R T h hb t k w g a r hQ
   refine⟨λhr=>?_,λi hi=>?_⟩
   ·have:=f listed L R hr
    subst this
    exact hQ _ _ _ g _ k (λ_ _ h=>h) r (Good.refl r.ok r.hB)
   ·obtain⟨V,h2,o,E,h3⟩:=xJ hi
    have ι:=(R.iff i V).1 h2
    obtain⟨q,S,rfl⟩:=zx.1 ι
    obtain⟨pre,post,rfl⟩:=List.append_of_mem S
    obtain⟨kq,ν⟩:=R.ent q S
    obtain⟨o',A,qe,_,_,_⟩:=wN ν
    rw[E] at A
    injection A with A
    subst A
    have η:=qIa (post:=post) R E h3 [] pre (by simp)
    have J:=YF E qe post pre η (λhc=>t q S o E hc) k
    have hu:Upto φ h.length:=Y.mono hb
    have β:((pre++post).map (·.1)).Nodup/\q.1∉(pre++post).map (·.1):=by
     have:=R.nodup
     simp only[zy,List.map_cons] at this⊢
     rw[List.nodup_append] at this
     obtain⟨n1,n2,n3⟩:=this
     rw[List.nodup_cons] at n2
     refine⟨?_,?_⟩
     ·rw[List.nodup_append]
      exact⟨n1,n2.2,λa ha b hb=>n3 a ha b (by simp[hb])⟩
     ·intro u
      rcases zK.1 u with u|u
      ·exact n3 _ u q.1 (by simp) rfl
      ·exact n2.1 u
    have z:(pre++post).Sublist (pre++q::post):=List.Sublist.append_left (List.sublist_cons_self q post) pre
    have G:=λm d=>qHa (listed:=listed) (i:=q.1) (by rw[R.size];exact V) m d
    have R':Rest ops (listed.setIfInBounds q.1 true) (pre++post):=by
     refine⟨by simp[R.size],β.1,λm u=>?_,R.pair.sublist z,λp s=>R.ent p (z.subset s),λm p s u j X=>?_⟩
     ·rw[G]
      by_cases e:m=q.1
      ·subst e;simp only[if_true];exact⟨λh=>(by cases h),λh=>absurd h β.2⟩
      ·rw[if_neg e,R.iff m u]
       simp[e]
     ·rw[G] at u⊢
      split
      ·rfl
      ·by_cases e:m=q.1
       ·subst e
        rw[E] at s
        injection s with s
        subst s
        exact h3 j X
       ·rw[if_neg e] at u
        exact R.down m p s u j X
    refine qGa (q:=less q pre) hu Y E ?_ J r λT' h' w' a' k' ⟨g',q1,q2,q3⟩=>?_
    ·rw[zL] at H
     exact H o (by simpa using Array.mem_of_getElem? E)
    ·refine ih _ (pre++post) (by simp at F ⊢;omega) R' (Nat.le_trans hb (Qr q3)) (λp s o2 M I=>?_) k' q2 λT2 h2 w2 g2 a2 k2 rr r2 z2=>hQ _ _ _ g2 _ k2 (λj X hr=>rr j X (q1 j (λ_=>by simp only[less];omega) hr)) r2 (q3.trans z2)
     refine q1 _ (λhc=>?_) (t p (z.subset s) o2 M I)
     have v:wF ops p q=true∨wF ops q p=true:=by
      rcases zK.1 s with s|s
      ·exact .inl ((qG.1 R.pair).2.2 p s q (by simp))
      ·exact .inr ((qu.1 (qG.1 R.pair).2.1).1 p s)
     have U:p.2.1≠q.2.1:=by
      rcases v with v|v
      ·obtain⟨x,y,D,C,_,_,_,e3⟩:=wx v
       rw[M] at D;injection D with D;subst D
       rw[E] at C;injection C with C;subst C
       exact e3 I hc
      ·obtain⟨x,y,D,C,_,_,_,e3⟩:=wx v
       rw[E] at D;injection D with D;subst D
       rw[M] at C;injection C with C;subst C
       exact λe=>e3 hc I e.symm
     simp only[less]
     omega
theorem yGa{id:Nat}{Q:jA}(E:P.follows .mixedOrders=true)(k:Nat)(b:List Ent)(G:ops.toList.all (kC N)=true)(e:Qy ops k b=true)(kk:wpE P ops h.length (Q .normal) b T (h++List.replicate k .res)):AWp P N B (.region id ops true) Q T h:=λφ x w g a r=>by
 simp only[Qy,zj,zL,decide_eq_true_eq,List.contains_eq_mem,jg] at e
 obtain⟨⟨⟨⟨⟨M,D⟩,y⟩,H⟩,A⟩,j⟩:=e
 have f:=Good.drew (g:=g) r.ok r.hB
 have v:=Q1 f.size k f.ok
 have l:=f.trans v
 have u:fill φ (h++List.replicate k .res)=fill φ h++List.replicate k .res:=jO x
 rw[<-u] at l
 have I:Rel N B w.drew g (fill φ (h++List.replicate k .res)) a T:=⟨l.ok,l.size,λi=>AR.le l.le _ _ (r.t i),r.d,r.n⟩
 refine wp_region_any E ?_
 have R:Rest ops (Array.replicate ops.size false) b:=by
  refine⟨by simp,A,λi hi=>?_,wG b M,λq s=>⟨k,y q s⟩,λi o p C=>?_⟩
  ·simp[zt,hi]
   have:=H i hi
   simpa using this
  ·have hi:i<ops.size:=by
    rcases Nat.lt_or_ge i ops.size with h|h
    ·exact h
    ·rw[Array.getElem?_eq_none h] at p;cases p
   simp[zt,hi] at C
 refine X0 (K:=Q .normal) x D G ops.size _ b j R (by simp) (λq s o p z=>?_) kk I λF h' w' g' S k' J L q=>⟨F,h',k',g',λi hi=>?_,L,l.trans q⟩
 ·obtain⟨o',c,_,_,O,_⟩:=wN (y q s)
  rw[p] at c
  injection c with c
  subst c
  have:=O z
  rw[zI (by omega),Nat.add_sub_cancel_left,List.getElem?_replicate,if_pos this]
 ·have m:=(zd.1 hi).1
  exact J i m (by rw[zC m];exact hi)
end
