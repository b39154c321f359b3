import Derived.Test.YtigdlmpjijhpaaaGreatKA
import Derived.Test.YtigdlmpjijhpaaaGreatK08
set_option linter.all false
namespace Go.Proofs.YtigdlmpjijhpaaaGreat.Ax
open Go Go.RowKit
section
variable {P:Program} {N:Nat} {B:Bs} {ops:Array Oper} {T:Env} {h:List Ob} {K K':Env->List Ob->Prop} {b:Nat}
def JRa(ops:Array Oper)(i:Ent)(o:Oper):List Ent->Prop
 | []=>True
 | j ::r=>(∃x,ops[j.1]? =some x/\QZ ops j i x o=true/\(cls x.op≠2->j.2.2=[])/\(cls x.op=3->cls o.op=3->j.2.1≠i.2.1)/\(∀l∈j.2.2,wc ops l i.1=true)/\
     (j.1∈i.2.2->∀d,x.dst=some d->vv ops x d=false)/\j.1∉r.map (·.1)/\(∀l∈i.2.2,l≠j.1->l∉r.map (·.1)->wc ops l j.1=true))/\JRa ops i o r
def less(i:Ent)(pre:List Ent):Ent:=(i.1,i.2.1,i.2.2.filter λl=> !(pre.map (·.1)).contains l)
theorem xRa{j i:Ent}{x o:Oper}{r:List Ent}(b:QZ ops j i x o=true)(c:j.1∉r.map (·.1)):QZ ops j (less i r) x o=true:=by
 simp only[QZ,zq,Bool.or_eq_true,beq_iff_eq,bne_iff_ne,ne_eq,decide_eq_true_eq] at b⊢
 refine⟨b.1,?_⟩
 rcases b.2 with((((h|h)|h)|⟨h,a⟩)|⟨h,a⟩)|⟨h,a⟩
 ·exact .inl (.inl (.inl (.inl (.inl h))))
 ·exact .inl (.inl (.inl (.inl (.inr h))))
 ·exact .inl (.inl (.inl (.inr h)))
 ·refine .inl (.inl (.inr ⟨h,?_⟩))
  have a:j.1∈i.2.2:=by simpa using a
  simp only[less,List.contains_eq_mem,decide_eq_true_eq,zL,a,true_and]
  simpa using c
 ·refine .inl (.inr ⟨h,?_⟩)
  have:i.2.2=[]:=by simpa using a
  simp[less,this]
 ·refine .inr ⟨h,?_⟩
  have:i.2.2=[]:=by simpa using a
  simp[less,this]
theorem qza{i:Ent}{o:Oper}(r:ops[i.1]? =some o)(d:cls o.op≠2->i.2.2=[])(post:List Ent):∀(pre:List Ent),JRa ops i o pre->∀ {T:Env} {h:List Ob},(cls o.op=3->h[b+i.2.1]? =some .res)->
  wpE P ops b K (pre++i::post) T h->kU P ops b (less i pre) o (wpE P ops b K (pre++post)) T h
 | [],_,T,h,_,k=>by
   simp only[List.nil_append,wpE,r] at k
   have:less i []=i:=by
    have:i.2.2.filter (λl=> !(([]:List Ent).map (·.1)).contains l)=i.2.2:=List.filter_eq_self.2 (by simp)
    simp only[less,this]
   rw[this]
   exact k
 | j::pre,⟨⟨x,v,w,z,u,f5,f6,f7,B⟩,D⟩,T,h,t,k=>by
   simp only[List.cons_append,wpE,v] at k⊢
   have k2:kU P ops b j x (kU P ops b (less i pre) o (wpE P ops b K (pre++post))) T h:=vMa k λF h' f k'=>by
    refine qza r d post pre D (λg=>f _ (λA=>?_) (t g)) k'
    have:=u A g
    omega
   have c:∀l,l∈(less i (j::pre)).2.2↔l∈i.2.2/\l≠j.1/\l∉pre.map (·.1):=λl=>by
    simp only[less,zL,List.map_cons,List.contains_eq_mem,Bool.not_eq_true',decide_eq_false_iff_not,zy,not_or]
   have a:∀l,l∈(less i pre).2.2↔l∈i.2.2/\l∉pre.map (·.1):=λl=>by
    simp only[less,zL,List.contains_eq_mem,Bool.not_eq_true',decide_eq_false_iff_not]
   have:=qZb (q:=less i pre) (l2:=(less i (j::pre)).2.2) (y:=o) v (xRa w f7) z (λg=>by simp[less,d g]) r
    (λl n=>by
     obtain⟨m,p,s⟩:=(c l).1 n
     exact⟨(a l).2 ⟨m,s⟩,B l m p s⟩) f5 (λl n C=>by
     obtain⟨m,p⟩:=(a l).1 n
     by_cases e:l=j.1
     ·exact e
     ·exact absurd ((c l).2 ⟨m,e,p⟩) C) t u (λE=>f6 ((a _).1 E).1) k2
   exact this
theorem Q0{listed:Array Bool}(a:∀i o,ops[i]? =some o->listed.getD i true=true->∀j∈vT o,listed.getD j false=true):
  ∀(f j i:Nat) (o:Oper),ops[i]? =some o->(∀k∈vT o,listed.getD k false=true)->Qu ops f j i=true->listed.getD j false=true
 | 0,j,i,o,m,g,h=>by
   simp only[Qu,m,List.contains_eq_mem,decide_eq_true_eq] at h
   exact g j h
 | f+1,j,i,o,m,g,h=>by
   simp only[Qu,m,List.contains_eq_mem,Bool.or_eq_true,decide_eq_true_eq,List.any_eq_true,zq] at h
   rcases h with h|⟨k,n,_,h⟩
   ·exact g j h
   ·have c:=g k n
    cases d:ops[k]? with
    | none=>cases f<;>simp[Qu,d] at h
    | some p=>
      have l:listed.getD k true=true:=by
       rw[zU] at c⊢
       cases e:listed[k]? with
       | none=>rfl
       | some b=>rw[e] at c;simpa using c
      exact Q0 a f j k p d (a k p d l) h
theorem Z8:∀(l:List Oper) (i:Nat),Qi ops i l=true->∀(m:Nat) (o:Oper),l[m]? =some o->∀j∈vT o,j<i+m
 | [],_,_,m,o,a,_,_=>by simp at a
 | o::l,i,h,0,p,a,j,b=>by
   simp only[Qi,zq,qa,decide_eq_true_eq] at h
   injection a with a
   subst a
   exact h.1 j b
 | o::l,i,h,m+1,p,a,j,b=>by
   simp only[Qi,zq,qa,decide_eq_true_eq] at h
   have:=Z8 l (i+1) h.2 m p a j b
   omega
theorem yw{listed:Array Bool}{i:Nat}(h:i∈Region.ready .any ops listed):i<ops.size/\listed.getD i true=false/\∃o,ops[i]? =some o/\∀j∈vT o,listed.getD j false=true:=by
 simp only[Region.ready,zL,qW,zq,Bool.not_eq_true'] at h
 obtain⟨b,f,a⟩:=h
 refine⟨b,f,ops[i],qH b,λj c=>?_⟩
 simp only[qH b,Option.map_some,Option.getD_some] at a
 rw[Array.all_eq_true_iff_forall_mem] at a
 simp only[vT,zt,zL] at c
 obtain⟨e,⟨g,d⟩,rfl⟩:=c
 have:=a e (by simpa using g)
 simpa [d] using this
theorem YG{listed:Array Bool}{i:Nat}{o:Oper}(f:i<ops.size)(b:listed.getD i true=false)(g:ops[i]? =some o)(d:∀j∈vT o,listed.getD j false=true):i∈Region.ready .any ops listed:=by
 simp only[Region.ready,zL,qW,zq,Bool.not_eq_true']
 refine⟨f,b,?_⟩
 simp only[g,Option.map_some,Option.getD_some]
 rw[Array.all_eq_true_iff_forall_mem]
 intro e c
 cases a:Region.binds .any e with
 | false=>simp
 | true=>
   have:=d e.on (by simp only[vT,zt,zL];exact⟨e,⟨by simpa using c,a⟩,rfl⟩)
   simpa using this
theorem KW{φ:Nat->Ob}{i:Nat}{o:Oper}(F:ops[i]? =some o)(C:vu N o=true){run:(Env->List Ob->Prop)->Env->List Ob->Prop}(k:kT ops o run K T h){Q:Exit->Act->World->Prop}{w:World}{g:Gh}{a:Act}(r:Rel N B w g (fill φ h) a T)
  {next:Act->World->Prop} (l:run K T h->o.wp P a w next Q) (E:∀z h' w' A,K z h'->Aft N B φ w g h z h' A w'->next A w'):wpOp P ops Q i next a w:=by
 have f:K (jb T o.dst (.v undef)) h->next (a.put o.dst undef) w:=λk=>
  E _ _ _ _ k ⟨g,.refl,wU r (Good.refl r.ok r.hB) (x:= .v undef) rfl C,Good.refl r.ok r.hB⟩
 unfold kT at k
 unfold wpOp
 simp only[F]
 split at k
 ·rename_i n
  rw[if_pos (by simp[Region.wanted,n])]
  exact .inl (l k)
 ·rename_i j want n
  split at k
  ·rename_i d m
   have p:yielded ops a.tmps j=match a.tmps[d]? with|some (.bool b)=>some b|_=>none:=by
    simp only[yielded,m,Option.bind_some]
    rfl
   have c:=r.t d
   rw[zU] at c
   split at k
   ·rename_i b y
    rw[y] at c
    have c:(a.tmps[d]?).getD undef= .bool b:=c
    have D:a.tmps[d]? =some (.bool b):=by
     cases e:a.tmps[d]? with
     | none=>rw[e] at c;cases c
     | some u=>rw[e] at c;exact congrArg some c
    rw[D] at p
    by_cases q:b=want
    ·rw[if_pos (by simp[Region.wanted,n,p,q])]
     exact .inl (l (k.1 q))
    ·rw[if_neg (by simp[Region.wanted,n,p,q])]
     exact f (k.2 q)
   ·rename_i vs y
    rw[y] at c
    have c:(a.tmps[d]?).getD undef= .tuple vs:=c
    have s:yielded ops a.tmps j=none:=by
     rw[p]
     cases e:a.tmps[d]? with
     | none=>rfl
     | some u=>rw[e] at c;have:u= .tuple vs:=c;subst this;rfl
    rw[if_neg (by simp[Region.wanted,n,s])]
    exact f k
   ·exact k.elim
  ·exact k.elim
theorem xSa{φ:Nat->Ob}(H:Upto φ h.length)(s:Upto φ b){q:Ent}{o:Oper}(C:ops[q.1]? =some o)(n:vu N o=true)(k:kU P ops b q o K T h){Q:Exit->Act->World->Prop}{w:World}{g:Gh}{a:Act}(r:Rel N B w g (fill φ h) a T)
  {next:Act->World->Prop} (p:∀c h' w' f,K c h'->(∃g',(∀j,(cls o.op=3->j≠b+q.2.1)->h[j]? =some .res->h'[j]? =some .res)/\Rel N B w' g' (fill φ h') f c/\Good B.b w g (fill φ h) w' g' (fill φ h'))->next f w'):wpOp P ops Q q.1 next a w:=by
 by_cases u:cls o.op=3
 ·rw[we u] at k
  refine KW C n (K:=λc h'=>K c h') k r (λk=>?_) λc h' w' f k' ⟨g',l,i,d⟩=>p _ _ _ _ k' ⟨g',λj _=>l j,i,d⟩
  unfold JP at k
  split at k
  ·rename_i ob mk E
   obtain⟨dst,op,type,pos,after,guard⟩:=o
   obtain⟨v,w',D,m⟩:=Yk r.ok r.hB r.t E dst type pos after guard
   have x:=m.live
   have y:(fill φ h)[b+q.2.1]? =some .res:=by
    rw[wS,k.1]
    simp only[Option.map_some,KH]
    rw[if_pos (show(Ob.res).isRes=true from rfl),s _ (by omega)]
   obtain⟨g',z,A⟩:=m.at r.ok r.hB y
   rw[<-ji x] at z A
   unfold Oper.wp
   rw[D]
   refine p _ _ _ _ k.2 ⟨g',λj G F=>?_,wU r z A n,z⟩
   rw[zc (λe=>G u e.symm)]
   exact F
  ·exact k.elim
 ·rw[wW u] at k
  exact KW C n (kx k λ_ _ k=>k.2) r (λk=>Kc H n k r λc h' w' f k' ⟨g',l,i,d⟩=>p _ _ _ _ k' ⟨g',λj _=>l j,i,d⟩) λc h' w' f k' ⟨g',l,i,d⟩=>p _ _ _ _ k' ⟨g',λj _=>l j,i,d⟩
theorem Qj:∀(l:List Ent),KS ops l=true->l.Pairwise λx y=>yM ops x y=true
 | [],_=> .nil
 | x::r,h=>by
   simp only[KS,zq,qa] at h
   exact .cons h.1 (Qj r h.2)
theorem yx{p q:Ent}(h:yM ops p q=true):∃x y,ops[p.1]? =some x/\ops[q.1]? =some y/\(Qu ops 8 p.1 q.1=true∨QZ ops p q x y=true)/\Qu ops 8 q.1 p.1=false/\q.1∉p.2.2/\(cls x.op=3->cls y.op=3->p.2.1≠q.2.1):=by
 unfold yM at h
 split at h
 ·rename_i x y c a
  simp only[zq,Bool.or_eq_true,Bool.not_eq_true',bne_iff_ne,ne_eq,List.contains_eq_mem,decide_eq_false_iff_not] at h
  refine⟨x,y,c,a,h.1.1.1,h.1.1.2,h.1.2,λd b=>?_⟩
  rcases h.2 with(h|h)|h
  ·exact absurd d h
  ·exact absurd b h
  ·exact h
 ·cases h
structure Rest (ops:Array Oper) (listed:Array Bool) (L:List Ent):Prop where
 size:listed.size=ops.size
 nodup:(L.map (·.1)).Nodup
 iff:∀i,i<ops.size->(listed.getD i true=false↔i∈L.map (·.1))
 pair:L.Pairwise λx y=>yM ops x y=true
 ent:∀q∈L,∃k,yma ops k q=true
 down:∀i o,ops[i]? =some o->listed.getD i true=true->∀j∈vT o,listed.getD j false=true
theorem JS{listed:Array Bool}{i:Nat}(hi:i<listed.size)(m:Nat)(d:Bool):(listed.setIfInBounds i true).getD m d=if m=i then true else listed.getD m d:=by
 simp only[zU]
 split
 ·rename_i e;subst e;simp[Array.getElem?_setIfInBounds,hi]
 ·rename_i e;rw[Array.getElem?_setIfInBounds_ne (λh=>e h.symm)]
theorem ZC{k:Nat}{q:Ent}(h:yma ops k q=true):∃o,ops[q.1]? =some o/\(cls o.op≠2->q.2.2=[])/\q.1∉q.2.2/\(cls o.op=3->q.2.1<k)/\∀l∈q.2.2,Z7 ops l=true:=by
 unfold yma at h
 split at h
 ·rename_i o f
  simp only[zq,Bool.or_eq_true,beq_iff_eq,bne_iff_ne,ne_eq,decide_eq_true_eq,Bool.not_eq_true',List.contains_eq_mem,decide_eq_false_iff_not,qa,List.isEmpty_iff] at h
  obtain⟨⟨⟨b,a⟩,e⟩,d⟩:=h
  refine⟨o,f,λc=>?_,e,λc=>?_,d⟩
  ·rcases b with b|b
   ·exact absurd b c
   ·exact b
  ·rcases a with a|a
   ·exact absurd c a
   ·exact a
 ·cases h
theorem YH{l p:Nat}(h:Z7 ops l=true)(a:p<ops.size):p=l∨Qu ops 8 p l=true∨wc ops l p=true:=by
 simp only[Z7,zq,qa,qW,Bool.or_eq_true,beq_iff_eq] at h
 rcases h.2 p a with(h|h)|h
 ·exact .inl h
 ·exact .inr (.inl h)
 ·exact .inr (.inr h)
theorem vRa{l:Nat}{x:Oper}(h:Z7 ops l=true)(a:ops[l]? =some x):∀d,x.dst=some d->vv ops x d=false:=λd b=>by
 simp only[Z7,zq,a] at h
 have:=h.1.2
 rw[b] at this
 simpa using this
theorem xTa{listed:Array Bool}{L:List Ent}(R:Rest ops listed L){i:Ent}{o:Oper}{post:List Ent}(E:ops[i.1]? =some o)(T:∀j∈vT o,listed.getD j false=true):∀(c pre:List Ent),L=c++pre++i::post->JRa ops i o pre
 | _,[],_=>trivial
 | c,j::pre,e=>by
   have D:j∈L:=by rw[e];simp
   have hi:i∈L:=by rw[e];simp
   have b:∀q∈L,q.1<ops.size:=λq n=>by
    obtain⟨k,Y⟩:=R.ent q n
    obtain⟨o,Q,_⟩:=ZC Y
    rcases Nat.lt_or_ge q.1 ops.size with h|h
    ·exact h
    ·rw[Array.getElem?_eq_none h] at Q;cases Q
   have C:∀q∈L,listed.getD q.1 false=false:=λq n=>by
    have:=(R.iff q.1 (b q n)).2 (zt.2 ⟨q,n,rfl⟩)
    rw[zU] at this⊢
    rw[qH (by rw[R.size];exact b q n)] at this⊢
    simpa using this
   have m:∀q∈L,∀l,listed.getD l true=true->l<ops.size->Qu ops 8 q.1 l=false:=λq n l d F=>by
    rw[jy]
    intro v
    have B:ops[l]? =some ops[l]:=qH F
    have:=Q0 R.down 8 q.1 l _ B (R.down l _ B d) v
    rw[C q n] at this
    cases this
   obtain⟨kj,P⟩:=R.ent j D
   obtain⟨x,I,U,W,_,Z⟩:=ZC P
   obtain⟨ki,M⟩:=R.ent i hi
   obtain⟨o',t,i1,X,_,S⟩:=ZC M
   rw[E] at t
   injection t with t
   subst t
   have f:=R.pair
   rw[e] at f
   have N:yM ops j i=true:=(qT.1 f).2.2 j (by simp) i (by simp)
   obtain⟨x',y',p1,p2,z,p4,V,p6⟩:=yx N
   rw[I] at p1;injection p1 with p1;subst p1
   rw[E] at p2;injection p2 with p2;subst p2
   have O:Qu ops 8 j.1 i.1=false:=by
    rw[jy]
    intro v
    have:=Q0 R.down 8 j.1 i.1 o E T v
    rw[C j D] at this
    cases this
   have J:QZ ops j i x o=true:=by
    rcases z with z|z
    ·rw[O] at z;cases z
    ·exact z
   have before:∀l∈c,∀q,q=i∨q∈j::pre->yM ops l q=true:=λl d q n=>by
    rw[zr] at f
    refine(qT.1 f).2.2 l d q ?_
    rcases n with rfl|n
    ·simp
    ·simp only[zI];exact .inl n
   have u:∀l,Z7 ops l=true->l<ops.size:=λl d=>by
    simp only[Z7,zq] at d
    rcases Nat.lt_or_ge l ops.size with h|h
    ·exact h
    ·have:=d.1;rw[Array.getElem?_eq_none h] at this;simp at this
   refine⟨⟨x,I,J,U,p6,λl d=>?_,λhm=>vRa (S _ hm) I,?_,λl d A G=>?_⟩,xTa (post:=post) R E T (c++[j]) pre (by rw[e];simp)⟩
   ·have g:=Z l d
    rcases YH g (b i hi) with h|h|h
    ·exact absurd (h▸d) V
    ·exfalso
     by_cases p:listed.getD l true=true
     ·rw[m i hi l p (u l g)] at h;cases h
     ·have w:=(R.iff l (u l g)).1 (by simpa using p)
      obtain⟨s,a,rfl⟩:=zt.1 w
      rw[e] at a
      have r:yM ops j s=true∨s=j∨s∈c:=by
       rcases zI.1 a with a|a
       ·rcases zI.1 a with a|a
        ·exact .inr (.inr a)
        ·rcases zy.1 a with rfl|a
         ·exact .inr (.inl rfl)
         ·refine .inl ?_
          have:=(qT.1 f).1
          have:=(qT.1 this).2.1
          exact(zR.1 this).1 s a
       ·exact .inl ((qT.1 f).2.2 j (by simp) s a)
      rcases r with r|rfl|r
      ·obtain⟨_,_,_,_,_,_,K,_⟩:=yx r
       exact K d
      ·exact W d
      ·obtain⟨_,_,_,_,_,H,_,_⟩:=yx (before s r i (.inl rfl))
       rw[H] at h;cases h
    ·exact h
   ·have y:=R.nodup
    rw[e] at y
    simp only[zw,List.map_cons,zr] at y
    have:=(List.nodup_append.1 y).2.1
    have:=(List.nodup_append.1 this).1
    exact(List.nodup_cons.1 this).1
   ·have g:=S l d
    rcases YH g (b j D) with h|h|h
    ·exact absurd h.symm A
    ·exfalso
     by_cases p:listed.getD l true=true
     ·rw[m j D l p (u l g)] at h;cases h
     ·have w:=(R.iff l (u l g)).1 (by simpa using p)
      obtain⟨s,a,rfl⟩:=zt.1 w
      rw[e] at a
      rcases zI.1 a with a|a
      ·rcases zI.1 a with a|a
       ·obtain⟨_,_,_,_,_,H,_,_⟩:=yx (before s a j (.inr (by simp)))
        rw[H] at h;cases h
       ·rcases zy.1 a with rfl|a
        ·exact A rfl
        ·exact G (zt.2 ⟨s,a,rfl⟩)
      ·rcases zy.1 a with rfl|a
       ·exact X d
       ·have:=(qT.1 f).2.1
        obtain⟨_,_,_,_,_,_,K,_⟩:=yx ((zR.1 this).1 s a)
        exact K d
    ·exact h
theorem qAa{φ:Nat->Ob}(Z:Upto φ b)(U:Qi ops 0 ops.toList=true)(G:ops.toList.all (vu N)=true){Q:Exit->Act->World->Prop}:
  ∀ (f:Nat) (listed:Array Bool) (L:List Ent),L.length<=f->Rest ops listed L->∀ {T:Env} {h:List Ob},b<=h.length->(∀q∈L,∀o,ops[q.1]? =some o->cls o.op=3->h[b+q.2.1]? =some .res)->
    wpE P ops b K L T h->∀ {w:World} {g:Gh} {a:Act},Rel N B w g (fill φ h) a T->(∀T' h' w' g' a',K T' h'->(∀j,j<b->h[j]? =some .res->h'[j]? =some .res)->Rel N B w' g' (fill φ h') a' T'->Good B.b w g (fill φ h) w' g' (fill φ h')->Q .normal a' w')->wpAny P .any ops Q f listed a w:=by
 have J:∀(listed:Array Bool) (L:List Ent),Rest ops listed L->∀q∈L,q.1<ops.size:=λlisted L R q hq=>by
  obtain⟨k,hk⟩:=R.ent q hq
  obtain⟨o,S,_⟩:=ZC hk
  rcases Nat.lt_or_ge q.1 ops.size with h|h
  ·exact h
  ·rw[Array.getElem?_eq_none h] at S;cases S
 have c:∀(listed:Array Bool) (L:List Ent),Rest ops listed L->Region.ready .any ops listed=[]->L=[]:=by
  intro listed L R hr
  by_cases I:L=[]
  ·exact I
  exfalso
  have hex:∃n,n∈L.map (·.1):=List.exists_mem_of_ne_nil _ (by simpa using I)
  obtain⟨n,hn,β⟩:=least hex
  obtain⟨q,hq,rfl⟩:=zt.1 hn
  have s:=J listed L R q hq
  have:q.1∈Region.ready .any ops listed:=YG s ((R.iff q.1 s).2 hn) (qH s) λj X=>by
   have μ:=Z8 ops.toList 0 U q.1 ops[q.1] (by simp[s]) j X
   rw[Nat.zero_add] at μ
   have ο:j<ops.size:=by omega
   have ρ:¬ j∈L.map (·.1):=λh=>by have:=β j h;omega
   have:¬ listed.getD j true=false:=λh=>ρ ((R.iff j ο).1 h)
   rw[zU] at this⊢
   rw[qH (by rw[R.size];omega)] at this⊢
   simpa using this
  rw[hr] at this
  cases this
 intro f
 induction f with
 | zero=>
   intro listed L F R T h hb u k w g a r hQ
   have:L=[]:=zF (by omega)
   subst this
   refine⟨?_,hQ _ _ _ g _ k (λ_ _ h=>h) r (Good.refl r.ok r.hB)⟩
   rw[List.eq_nil_iff_forall_not_mem]
   intro i hi
   obtain⟨S,h2,_⟩:=yw hi
   have:=(R.iff i S).1 h2
   cases this
 | succ f ih=>
   intro listed L F R T h hb u k w g a r hQ
   refine⟨λhr=>?_,λi hi=>?_⟩
   ·have:=c listed L R hr
    subst this
    exact hQ _ _ _ g _ k (λ_ _ h=>h) r (Good.refl r.ok r.hB)
   ·obtain⟨S,h2,o,C,h3⟩:=yw hi
    have η:=(R.iff i S).1 h2
    obtain⟨q,W,rfl⟩:=zt.1 η
    obtain⟨pre,post,rfl⟩:=List.append_of_mem W
    obtain⟨kq,κ⟩:=R.ent q W
    obtain⟨o',E,qe,_,_,_⟩:=ZC κ
    rw[C] at E
    injection E with E
    subst E
    have σ:=xTa (post:=post) R C h3 [] pre (by simp)
    have V:=qza C qe post pre σ (λhc=>u q W o C hc) k
    have hu:Upto φ h.length:=Z.mono hb
    have Y:((pre++post).map (·.1)).Nodup/\q.1∉(pre++post).map (·.1):=by
     have:=R.nodup
     simp only[zw,List.map_cons] at this⊢
     rw[List.nodup_append] at this
     obtain⟨n1,n2,n3⟩:=this
     rw[List.nodup_cons] at n2
     refine⟨?_,?_⟩
     ·rw[List.nodup_append]
      exact⟨n1,n2.2,λa ha b hb=>n3 a ha b (by simp[hb])⟩
     ·intro v
      rcases zI.1 v with v|v
      ·exact n3 _ v q.1 (by simp) rfl
      ·exact n2.1 v
    have t:(pre++post).Sublist (pre++q::post):=List.Sublist.append_left (List.sublist_cons_self q post) pre
    have H:=λm d=>JS (listed:=listed) (i:=q.1) (by rw[R.size];exact S) m d
    have R':Rest ops (listed.setIfInBounds q.1 true) (pre++post):=by
     refine⟨by simp[R.size],Y.1,λm v=>?_,R.pair.sublist t,λp l=>R.ent p (t.subset l),λm p l v j X=>?_⟩
     ·rw[H]
      by_cases e:m=q.1
      ·subst e;simp only[if_true];exact⟨λh=>(by cases h),λh=>absurd h Y.2⟩
      ·rw[if_neg e,R.iff m v]
       simp[e]
     ·rw[H] at v⊢
      split
      ·rfl
      ·by_cases e:m=q.1
       ·subst e
        rw[C] at l
        injection l with l
        subst l
        exact h3 j X
       ·rw[if_neg e] at v
        exact R.down m p l v j X
    refine xSa (q:=less q pre) hu Z C ?_ V r λT' h' w' a' k' ⟨g',q1,q2,q3⟩=>?_
    ·rw[qa] at G
     exact G o (by simpa using Array.mem_of_getElem? C)
    ·refine ih _ (pre++post) (by simp at F ⊢;omega) R' (Nat.le_trans hb (Zz q3)) (λp l o2 O M=>?_) k' q2 λT2 h2 w2 g2 a2 k2 rr r2 z2=>hQ _ _ _ g2 _ k2 (λj X hr=>rr j X (q1 j (λ_=>by simp only[less];omega) hr)) r2 (q3.trans z2)
     refine q1 _ (λhc=>?_) (u p (t.subset l) o2 O M)
     have z:yM ops p q=true∨yM ops q p=true:=by
      rcases zI.1 l with l|l
      ·exact .inl ((qT.1 R.pair).2.2 p l q (by simp))
      ·exact .inr ((zR.1 (qT.1 R.pair).2.1).1 p l)
     have I:p.2.1≠q.2.1:=by
      rcases z with z|z
      ·obtain⟨x,y,A,D,_,_,_,e3⟩:=yx z
       rw[O] at A;injection A with A;subst A
       rw[C] at D;injection D with D;subst D
       exact e3 M hc
      ·obtain⟨x,y,A,D,_,_,_,e3⟩:=yx z
       rw[C] at A;injection A with A;subst A
       rw[O] at D;injection D with D;subst D
       exact λe=>e3 hc M e.symm
     simp only[less]
     omega
theorem JSa{id:Nat}{Q:xR}(L:P.follows .mixedOrders=true)(k:Nat)(b:List Ent)(z:ops.toList.all (vu N)=true)(e:YC ops k b=true)(kk:wpE P ops h.length (Q .normal) b T (h++List.replicate k .res)):AWp P N B (.region id ops true) Q T h:=λφ y w g a r=>by
 simp only[YC,zq,qa,decide_eq_true_eq,List.contains_eq_mem,qW] at e
 obtain⟨⟨⟨⟨⟨O,F⟩,x⟩,J⟩,A⟩,j⟩:=e
 have f:=Good.drew (g:=g) r.ok r.hB
 have u:=VF f.size k f.ok
 have m:=f.trans u
 have v:fill φ (h++List.replicate k .res)=fill φ h++List.replicate k .res:=xc y
 rw[<-v] at m
 have M:Rel N B w.drew g (fill φ (h++List.replicate k .res)) a T:=⟨m.ok,m.size,λi=>AR.le m.le _ _ (r.t i),r.d,r.n⟩
 refine wp_region_any L ?_
 have R:Rest ops (Array.replicate ops.size false) b:=by
  refine⟨by simp,A,λi hi=>?_,Qj b O,λq s=>⟨k,x q s⟩,λi o p E=>?_⟩
  ·simp[zU,hi]
   have:=J i hi
   simpa using this
  ·have hi:i<ops.size:=by
    rcases Nat.lt_or_ge i ops.size with h|h
    ·exact h
    ·rw[Array.getElem?_eq_none h] at p;cases p
   simp[zU,hi] at E
 refine qAa (K:=Q .normal) y F z ops.size _ b j R (by simp) (λq s o p I=>?_) kk M λD h' w' g' S k' C G q=>⟨D,h',k',g',λi hi=>?_,G,m.trans q⟩
 ·obtain⟨o',c,_,_,H,_⟩:=ZC (x q s)
  rw[p] at c
  injection c with c
  subst c
  have:=H I
  rw[zX (by omega),Nat.add_sub_cancel_left,List.getElem?_replicate,if_pos this]
 ·have l:=(zd.1 hi).1
  exact C i l (by rw[zN l];exact hi)
end
