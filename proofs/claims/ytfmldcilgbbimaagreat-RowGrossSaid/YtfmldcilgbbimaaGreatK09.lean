/-
  Joined.
-/
import Derived.Test.YtfmldcilgbbimaaGreatK08
set_option linter.unusedSimpArgs false
set_option linter.unusedVariables false
namespace Go.Proofs.YtfmldcilgbbimaaGreat.Ax
open Go Go.RowKit
section
variable {P:Program} {N:Nat} {B:Bs} {ops:Array Oper} {T:Env} {h:List Ob} {K K':Env->List Ob->Prop} {b:Nat}
def x0a (ops:Array Oper) (i:Ent) (o:Oper):List Ent->Prop
 | []=>True
 | j ::r=>(∃x,ops[j.1]? =some x/\wO ops j i x o=true/\(cls x.op≠2->j.2.2=[])/\(cls x.op=3->cls o.op=3->j.2.1≠i.2.1)/\(∀l∈j.2.2,xc ops l i.1=true)/\
     (j.1∈i.2.2->∀d,x.dst=some d->jH ops x d=false)/\j.1∉r.map (·.1)/\(∀l∈i.2.2,l≠j.1->l∉r.map (·.1)->xc ops l j.1=true))/\x0a ops i o r
def less (i:Ent) (pre:List Ent):Ent:=(i.1,i.2.1,i.2.2.filter λl=> !(pre.map (·.1)).contains l)
theorem Wx {j i:Ent} {x o:Oper} {r:List Ent} (b:wO ops j i x o=true) (c:j.1∉r.map (·.1)):wO ops j (less i r) x o=true:=by
 simp only[wO,Bool.and_eq_true,Bool.or_eq_true,beq_iff_eq,bne_iff_ne,ne_eq,decide_eq_true_eq] at b⊢
 refine ⟨b.1,?_⟩
 rcases b.2 with ((((h | h) | h) | ⟨h,a⟩) | ⟨h,a⟩) | ⟨h,a⟩
 ·exact .inl (.inl (.inl (.inl (.inl h))))
 ·exact .inl (.inl (.inl (.inl (.inr h))))
 ·exact .inl (.inl (.inl (.inr h)))
 ·refine .inl (.inl (.inr ⟨h,?_⟩))
  have a:j.1∈i.2.2:=by simpa using a
  simp only[less,List.contains_eq_mem,decide_eq_true_eq,List.mem_filter,a,true_and]
  simpa using c
 ·refine .inl (.inr ⟨h,?_⟩)
  have:i.2.2=[]:=by simpa using a
  simp[less,this]
 ·refine .inr ⟨h,?_⟩
  have:i.2.2=[]:=by simpa using a
  simp[less,this]
theorem KQ {i:Ent} {o:Oper} (r:ops[i.1]? =some o) (f:cls o.op≠2->i.2.2=[]) (post:List Ent):∀(pre:List Ent),x0a ops i o pre->∀ {T:Env} {h:List Ob},(cls o.op=3->h[b+i.2.1]? =some .res)->
  wpE P ops b K (pre++i::post) T h->ju P ops b (less i pre) o (wpE P ops b K (pre++post)) T h
 | [],_,T,h,_,k=>by
   simp only[List.nil_append,wpE,r] at k
   have:less i []=i:=by
    have:i.2.2.filter (λl=> !(([]:List Ent).map (·.1)).contains l)=i.2.2:=List.filter_eq_self.2 (by simp)
    simp only[less,this]
   rw[this]
   exact k
 | j::pre,⟨⟨x,s,w,z,u,f5,f6,f7,A⟩,B⟩,T,h,v,k=>by
   simp only[List.cons_append,wpE,s] at k⊢
   have k2:ju P ops b j x (ju P ops b (less i pre) o (wpE P ops b K (pre++post))) T h:=Y4 k λF h' d k'=>by
    refine KQ r f post pre B (λg=>d _ (λC=>?_) (v g)) k'
    have:=u C g
    omega
   have c:∀l,l∈(less i (j::pre)).2.2↔l∈i.2.2/\l≠j.1/\l∉pre.map (·.1):=λl=>by
    simp only[less,List.mem_filter,List.map_cons,List.contains_eq_mem,Bool.not_eq_true',decide_eq_false_iff_not,List.mem_cons,not_or]
   have a:∀l,l∈(less i pre).2.2↔l∈i.2.2/\l∉pre.map (·.1):=λl=>by
    simp only[less,List.mem_filter,List.contains_eq_mem,Bool.not_eq_true',decide_eq_false_iff_not]
   have:=Qia (q:=less i pre) (l2:=(less i (j::pre)).2.2) (y:=o) s (Wx w f7) z (λg=>by simp[less,f g]) r
    (λl n=>by
     obtain ⟨m,p,t⟩:=(c l).1 n
     exact ⟨(a l).2 ⟨m,t⟩,A l m p t⟩) f5 (λl n E=>by
     obtain ⟨m,p⟩:=(a l).1 n
     by_cases e:l=j.1
     ·exact e
     ·exact absurd ((c l).2 ⟨m,e,p⟩) E) v u (λD=>f6 ((a _).1 D).1) k2
   exact this
theorem wP {listed:Array Bool} (a:∀i o,ops[i]? =some o->listed.getD i true=true->∀j∈kn o,listed.getD j false=true):
  ∀(f j i:Nat) (o:Oper),ops[i]? =some o->(∀k∈kn o,listed.getD k false=true)->wx ops f j i=true->listed.getD j false=true
 | 0,j,i,o,m,g,h=>by
   simp only[wx,m,List.contains_eq_mem,decide_eq_true_eq] at h
   exact g j h
 | f+1,j,i,o,m,g,h=>by
   simp only[wx,m,List.contains_eq_mem,Bool.or_eq_true,decide_eq_true_eq,List.any_eq_true,Bool.and_eq_true] at h
   rcases h with h | ⟨k,n,_,h⟩
   ·exact g j h
   ·have d:=g k n
    cases c:ops[k]? with
    | none=>cases f<;>simp[wx,c] at h
    | some p=>
      have l:listed.getD k true=true:=by
       rw[Array.getD_eq_getD_getElem?] at d⊢
       cases e:listed[k]? with
       | none=>rfl
       | some b=>rw[e] at d;simpa using d
      exact wP a f j k p c (a k p c l) h
theorem Ji:∀(l:List Oper) (i:Nat),QH ops i l=true->∀(m:Nat) (o:Oper),l[m]? =some o->∀j∈kn o,j<i+m
 | [],_,_,m,o,a,_,_=>by simp at a
 | o::l,i,h,0,p,a,j,b=>by
   simp only[QH,Bool.and_eq_true,List.all_eq_true,decide_eq_true_eq] at h
   injection a with a
   subst a
   exact h.1 j b
 | o::l,i,h,m+1,p,a,j,b=>by
   simp only[QH,Bool.and_eq_true,List.all_eq_true,decide_eq_true_eq] at h
   have:=Ji l (i+1) h.2 m p a j b
   omega
theorem Xm {listed:Array Bool} {i:Nat} (h:i∈Region.ready .any ops listed):i<ops.size/\listed.getD i true=false/\∃o,ops[i]? =some o/\∀j∈kn o,listed.getD j false=true:=by
 simp only[Region.ready,List.mem_filter,List.mem_range,Bool.and_eq_true,Bool.not_eq_true'] at h
 obtain ⟨a,d,b⟩:=h
 refine ⟨a,d,ops[i],Array.getElem?_eq_getElem a,λj c=>?_⟩
 simp only[Array.getElem?_eq_getElem a,Option.map_some,Option.getD_some] at b
 rw[Array.all_eq_true_iff_forall_mem] at b
 simp only[kn,List.mem_map,List.mem_filter] at c
 obtain ⟨e,⟨g,f⟩,rfl⟩:=c
 have:=b e (by simpa using g)
 simpa [f] using this
theorem x1a {listed:Array Bool} {i:Nat} {o:Oper} (d:i<ops.size) (a:listed.getD i true=false) (f:ops[i]? =some o) (g:∀j∈kn o,listed.getD j false=true):i∈Region.ready .any ops listed:=by
 simp only[Region.ready,List.mem_filter,List.mem_range,Bool.and_eq_true,Bool.not_eq_true']
 refine ⟨d,a,?_⟩
 simp only[f,Option.map_some,Option.getD_some]
 rw[Array.all_eq_true_iff_forall_mem]
 intro e c
 cases b:Region.binds .any e with
 | false=>simp
 | true=>
   have:=g e.on (by simp only[kn,List.mem_map,List.mem_filter];exact ⟨e,⟨by simpa using c,b⟩,rfl⟩)
   simpa using this
theorem Qh {φ:Nat->Ob} {i:Nat} {o:Oper} (E:ops[i]? =some o) (F:kY N o=true) {run:(Env->List Ob->Prop)->Env->List Ob->Prop} (k:jt ops o run K T h) {Q:Exit->Act->World->Prop} {w:World} {g:Gh} {a:Act} (r:Rel N B w g (fill φ h) a T)
  {next:Act->World->Prop} (l:run K T h->o.wp P a w next Q) (G:∀C h' w' A,K C h'->Aft N B φ w g h C h' A w'->next A w'):wpOp P ops Q i next a w:=by
 have f:K (zL T o.dst (.v undef)) h->next (a.put o.dst undef) w:=λk=>
  G _ _ _ _ k ⟨g,.refl,vg r (Good.refl r.ok r.hB) (x:= .v undef) rfl F,Good.refl r.ok r.hB⟩
 unfold jt at k
 unfold wpOp
 simp only[E]
 split at k
 ·rename_i n
  rw[if_pos (by simp[Region.wanted,n])]
  exact .inl (l k)
 ·rename_i j p n
  split at k
  ·rename_i d m
   have q:yielded ops a.tmps j=match a.tmps[d]? with | some (.bool b)=>some b | _=>none:=by
    simp only[yielded,m,Option.bind_some]
    rfl
   have c:=r.t d
   rw[Array.getD_eq_getD_getElem?] at c
   split at k
   ·rename_i b y
    rw[y] at c
    have c:(a.tmps[d]?).getD undef= .bool b:=c
    have D:a.tmps[d]? =some (.bool b):=by
     cases e:a.tmps[d]? with
     | none=>rw[e] at c;cases c
     | some u=>rw[e] at c;exact congrArg some c
    rw[D] at q
    by_cases s:b=p
    ·rw[if_pos (by simp[Region.wanted,n,q,s])]
     exact .inl (l (k.1 s))
    ·rw[if_neg (by simp[Region.wanted,n,q,s])]
     exact f (k.2 s)
   ·rename_i vs y
    rw[y] at c
    have c:(a.tmps[d]?).getD undef= .tuple vs:=c
    have z:yielded ops a.tmps j=none:=by
     rw[q]
     cases e:a.tmps[d]? with
     | none=>rfl
     | some u=>rw[e] at c;have:u= .tuple vs:=c;subst this;rfl
    rw[if_neg (by simp[Region.wanted,n,z])]
    exact f k
   ·exact k.elim
  ·exact k.elim
theorem Wy {φ:Nat->Ob} (F:Upto φ h.length) (z:Upto φ b) {q:Ent} {o:Oper} (C:ops[q.1]? =some o) (n:kY N o=true) (k:ju P ops b q o K T h) {Q:Exit->Act->World->Prop} {w:World} {g:Gh} {a:Act} (r:Rel N B w g (fill φ h) a T)
  {next:Act->World->Prop} (p:∀c h' w' f,K c h'->(∃g',(∀j,(cls o.op=3->j≠b+q.2.1)->h[j]? =some .res->h'[j]? =some .res)/\Rel N B w' g' (fill φ h') f c/\Good B.b w g (fill φ h) w' g' (fill φ h'))->next f w'):wpOp P ops Q q.1 next a w:=by
 by_cases y:cls o.op=3
 ·rw[xf y] at k
  refine Qh C n (K:=λc h'=>K c h') k r (λk=>?_) λc h' w' f k' ⟨g',l,i,d⟩=>p _ _ _ _ k' ⟨g',λj _=>l j,i,d⟩
  unfold yD at k
  split at k
  ·rename_i ob mk G
   obtain ⟨dst,op,type,pos,after,guard⟩:=o
   obtain ⟨v,w',H,m⟩:=J1 r.ok r.hB r.t G dst type pos after guard
   have u:=m.live
   have x:(fill φ h)[b+q.2.1]? =some .res:=by
    rw[xJ,k.1]
    simp only[Option.map_some,Z1]
    rw[if_pos (show (Ob.res).isRes=true from rfl),z _ (by omega)]
   obtain ⟨g',s,A⟩:=m.at r.ok r.hB x
   rw[<-qS u] at s A
   unfold Oper.wp
   rw[H]
   refine p _ _ _ _ k.2 ⟨g',λj D E=>?_,vg r s A n,s⟩
   rw[List.getElem?_set_ne (λe=>D y e.symm)]
   exact E
  ·exact k.elim
 ·rw[xL y] at k
  exact Qh C n (jf k λ_ _ k=>k.2) r (λk=>Xa F n k r λc h' w' f k' ⟨g',l,i,d⟩=>p _ _ _ _ k' ⟨g',λj _=>l j,i,d⟩) λc h' w' f k' ⟨g',l,i,d⟩=>p _ _ _ _ k' ⟨g',λj _=>l j,i,d⟩
theorem wo:∀(l:List Ent),Qe ops l=true->l.Pairwise λx y=>kC ops x y=true
 | [],_=> .nil
 | x::r,h=>by
   simp only[Qe,Bool.and_eq_true,List.all_eq_true] at h
   exact .cons h.1 (wo r h.2)
theorem kp {p q:Ent} (h:kC ops p q=true):∃x y,ops[p.1]? =some x/\ops[q.1]? =some y/\(wx ops 8 p.1 q.1=true∨wO ops p q x y=true)/\wx ops 8 q.1 p.1=false/\q.1∉p.2.2/\(cls x.op=3->cls y.op=3->p.2.1≠q.2.1):=by
 unfold kC at h
 split at h
 ·rename_i x y c a
  simp only[Bool.and_eq_true,Bool.or_eq_true,Bool.not_eq_true',bne_iff_ne,ne_eq,List.contains_eq_mem,decide_eq_false_iff_not] at h
  refine ⟨x,y,c,a,h.1.1.1,h.1.1.2,h.1.2,λd b=>?_⟩
  rcases h.2 with (h | h) | h
  ·exact absurd d h
  ·exact absurd b h
  ·exact h
 ·cases h
structure Rest (ops:Array Oper) (listed:Array Bool) (L:List Ent):Prop where
 size:listed.size=ops.size
 nodup:(L.map (·.1)).Nodup
 iff:∀i,i<ops.size->(listed.getD i true=false↔i∈L.map (·.1))
 pair:L.Pairwise λx y=>kC ops x y=true
 ent:∀q∈L,∃k,qha ops k q=true
 down:∀i o,ops[i]? =some o->listed.getD i true=true->∀j∈kn o,listed.getD j false=true
theorem x2a {listed:Array Bool} {i:Nat} (a:i<listed.size) (m:Nat) (d:Bool):(listed.setIfInBounds i true).getD m d=if m=i then true else listed.getD m d:=by
 simp only[Array.getD_eq_getD_getElem?]
 split
 ·rename_i e;subst e;simp[Array.getElem?_setIfInBounds,a]
 ·rename_i e;rw[Array.getElem?_setIfInBounds_ne (λh=>e h.symm)]
theorem vB {k:Nat} {q:Ent} (h:qha ops k q=true):∃o,ops[q.1]? =some o/\(cls o.op≠2->q.2.2=[])/\q.1∉q.2.2/\(cls o.op=3->q.2.1<k)/\∀l∈q.2.2,wg ops l=true:=by
 unfold qha at h
 split at h
 ·rename_i o e
  simp only[Bool.and_eq_true,Bool.or_eq_true,beq_iff_eq,bne_iff_ne,ne_eq,decide_eq_true_eq,Bool.not_eq_true',List.contains_eq_mem,decide_eq_false_iff_not,List.all_eq_true,List.isEmpty_iff] at h
  obtain ⟨⟨⟨b,a⟩,f⟩,d⟩:=h
  refine ⟨o,e,λc=>?_,f,λc=>?_,d⟩
  ·rcases b with b | b
   ·exact absurd b c
   ·exact b
  ·rcases a with a | a
   ·exact absurd c a
   ·exact a
 ·cases h
theorem Xn {l p:Nat} (h:wg ops l=true) (a:p<ops.size):p=l∨wx ops 8 p l=true∨xc ops l p=true:=by
 simp only[wg,Bool.and_eq_true,List.all_eq_true,List.mem_range,Bool.or_eq_true,beq_iff_eq] at h
 rcases h.2 p a with (h | h) | h
 ·exact .inl h
 ·exact .inr (.inl h)
 ·exact .inr (.inr h)
theorem Y9 {l:Nat} {x:Oper} (h:wg ops l=true) (a:ops[l]? =some x):∀d,x.dst=some d->jH ops x d=false:=λd b=>by
 simp only[wg,Bool.and_eq_true,a] at h
 have:=h.1.2
 rw[b] at this
 simpa using this
theorem Wz {listed:Array Bool} {L:List Ent} (R:Rest ops listed L) {i:Ent} {o:Oper} {post:List Ent} (E:ops[i.1]? =some o) (S:∀j∈kn o,listed.getD j false=true):∀(c pre:List Ent),L=c++pre++i::post->x0a ops i o pre
 | _,[],_=>trivial
 | c,j::pre,e=>by
   have D:j∈L:=by rw[e];simp
   have J:i∈L:=by rw[e];simp
   have b:∀q∈L,q.1<ops.size:=λq r=>by
    obtain ⟨k,V⟩:=R.ent q r
    obtain ⟨o,U,_⟩:=vB V
    rcases Nat.lt_or_ge q.1 ops.size with h | h
    ·exact h
    ·rw[Array.getElem?_eq_none h] at U;cases U
   have C:∀q∈L,listed.getD q.1 false=false:=λq r=>by
    have:=(R.iff q.1 (b q r)).2 (List.mem_map.2 ⟨q,r,rfl⟩)
    rw[Array.getD_eq_getD_getElem?] at this⊢
    rw[Array.getElem?_eq_getElem (by rw[R.size];exact b q r)] at this⊢
    simpa using this
   have m:∀q∈L,∀l,listed.getD l true=true->l<ops.size->wx ops 8 q.1 l=false:=λq r l f P=>by
    rw[Bool.eq_false_iff]
    intro w
    have B:ops[l]? =some ops[l]:=Array.getElem?_eq_getElem P
    have:=wP R.down 8 q.1 l _ B (R.down l _ B f) w
    rw[C q r] at this
    cases this
   obtain ⟨kj,M⟩:=R.ent j D
   obtain ⟨x,Q,x1,X,_,W⟩:=vB M
   obtain ⟨ki,H⟩:=R.ent i J
   obtain ⟨o',t,i1,Y,_,T⟩:=vB H
   rw[E] at t
   injection t with t
   subst t
   have g:=R.pair
   rw[e] at g
   have K:kC ops j i=true:=(List.pairwise_append.1 g).2.2 j (by simp) i (by simp)
   obtain ⟨x',y',p1,p2,z,p4,p5,Z⟩:=kp K
   rw[Q] at p1;injection p1 with p1;subst p1
   rw[E] at p2;injection p2 with p2;subst p2
   have I:wx ops 8 j.1 i.1=false:=by
    rw[Bool.eq_false_iff]
    intro w
    have:=wP R.down 8 j.1 i.1 o E S w
    rw[C j D] at this
    cases this
   have N:wO ops j i x o=true:=by
    rcases z with z | z
    ·rw[I] at z;cases z
    ·exact z
   have before:∀l∈c,∀q,q=i∨q∈j::pre->kC ops l q=true:=λl f q r=>by
    rw[List.append_assoc] at g
    refine (List.pairwise_append.1 g).2.2 l f q ?_
    rcases r with rfl | r
    ·simp
    ·simp only[List.mem_append];exact .inl r
   have u:∀l,wg ops l=true->l<ops.size:=λl f=>by
    simp only[wg,Bool.and_eq_true] at f
    rcases Nat.lt_or_ge l ops.size with h | h
    ·exact h
    ·have:=f.1;rw[Array.getElem?_eq_none h] at this;simp at this
   refine ⟨⟨x,Q,N,x1,Z,λl f=>?_,λhm=>Y9 (T _ hm) Q,?_,λl f A O=>?_⟩,Wz (post:=post) R E S (c++[j]) pre (by rw[e];simp)⟩
   ·have d:=W l f
    rcases Xn d (b i J) with h | h | h
    ·exact absurd (h▸f) p5
    ·exfalso
     by_cases n:listed.getD l true=true
     ·rw[m i J l n (u l d)] at h;cases h
     ·have v:=(R.iff l (u l d)).1 (by simpa using n)
      obtain ⟨s,a,rfl⟩:=List.mem_map.1 v
      rw[e] at a
      have p:kC ops j s=true∨s=j∨s∈c:=by
       rcases List.mem_append.1 a with a | a
       ·rcases List.mem_append.1 a with a | a
        ·exact .inr (.inr a)
        ·rcases List.mem_cons.1 a with rfl | a
         ·exact .inr (.inl rfl)
         ·refine .inl ?_
          have:=(List.pairwise_append.1 g).1
          have:=(List.pairwise_append.1 this).2.1
          exact (List.pairwise_cons.1 this).1 s a
       ·exact .inl ((List.pairwise_append.1 g).2.2 j (by simp) s a)
      rcases p with p | rfl | p
      ·obtain ⟨_,_,_,_,_,_,G,_⟩:=kp p
       exact G f
      ·exact X f
      ·obtain ⟨_,_,_,_,_,F,_,_⟩:=kp (before s p i (.inl rfl))
       rw[F] at h;cases h
    ·exact h
   ·have y:=R.nodup
    rw[e] at y
    simp only[List.map_append,List.map_cons,List.append_assoc] at y
    have:=(List.nodup_append.1 y).2.1
    have:=(List.nodup_append.1 this).1
    exact (List.nodup_cons.1 this).1
   ·have d:=T l f
    rcases Xn d (b j D) with h | h | h
    ·exact absurd h.symm A
    ·exfalso
     by_cases n:listed.getD l true=true
     ·rw[m j D l n (u l d)] at h;cases h
     ·have v:=(R.iff l (u l d)).1 (by simpa using n)
      obtain ⟨s,a,rfl⟩:=List.mem_map.1 v
      rw[e] at a
      rcases List.mem_append.1 a with a | a
      ·rcases List.mem_append.1 a with a | a
       ·obtain ⟨_,_,_,_,_,F,_,_⟩:=kp (before s a j (.inr (by simp)))
        rw[F] at h;cases h
       ·rcases List.mem_cons.1 a with rfl | a
        ·exact A rfl
        ·exact O (List.mem_map.2 ⟨s,a,rfl⟩)
      ·rcases List.mem_cons.1 a with rfl | a
       ·exact Y f
       ·have:=(List.pairwise_append.1 g).2.1
        obtain ⟨_,_,_,_,_,_,G,_⟩:=kp ((List.pairwise_cons.1 this).1 s a)
        exact G f
    ·exact h
theorem KR {φ:Nat->Ob} (Z:Upto φ b) (M:QH ops 0 ops.toList=true) (G:ops.toList.all (kY N)=true) {Q:Exit->Act->World->Prop}:
  ∀ (f:Nat) (listed:Array Bool) (L:List Ent),L.length<=f->Rest ops listed L->∀ {T:Env} {h:List Ob},b<=h.length->(∀q∈L,∀o,ops[q.1]? =some o->cls o.op=3->h[b+q.2.1]? =some .res)->
    wpE P ops b K L T h->∀ {w:World} {g:Gh} {a:Act},Rel N B w g (fill φ h) a T->(∀T' h' w' g' a',K T' h'->(∀j,j<b->h[j]? =some .res->h'[j]? =some .res)->Rel N B w' g' (fill φ h') a' T'->Good B.b w g (fill φ h) w' g' (fill φ h')->Q .normal a' w')->wpAny P .any ops Q f listed a w:=by
 have S:∀(listed:Array Bool) (L:List Ent),Rest ops listed L->∀q∈L,q.1<ops.size:=λlisted L R q hq=>by
  obtain ⟨k,hk⟩:=R.ent q hq
  obtain ⟨o,W,_⟩:=vB hk
  rcases Nat.lt_or_ge q.1 ops.size with h | h
  ·exact h
  ·rw[Array.getElem?_eq_none h] at W;cases W
 have c:∀(listed:Array Bool) (L:List Ent),Rest ops listed L->Region.ready .any ops listed=[]->L=[]:=by
  intro listed L R hr
  by_cases O:L=[]
  ·exact O
  exfalso
  have hex:∃n,n∈L.map (·.1):=List.exists_mem_of_ne_nil _ (by simpa using O)
  obtain ⟨n,hn,γ⟩:=least hex
  obtain ⟨q,hq,rfl⟩:=List.mem_map.1 hn
  have l:=S listed L R q hq
  have:q.1∈Region.ready .any ops listed:=x1a l ((R.iff q.1 l).2 hn) (Array.getElem?_eq_getElem l) λj X=>by
   have μ:=Ji ops.toList 0 M q.1 ops[q.1] (by simp[l]) j X
   rw[Nat.zero_add] at μ
   have ξ:j<ops.size:=by omega
   have ν:¬ j∈L.map (·.1):=λh=>by have:=γ j h;omega
   have:¬ listed.getD j true=false:=λh=>ν ((R.iff j ξ).1 h)
   rw[Array.getD_eq_getD_getElem?] at this⊢
   rw[Array.getElem?_eq_getElem (by rw[R.size];omega)] at this⊢
   simpa using this
  rw[hr] at this
  cases this
 intro f
 induction f with
 | zero=>
   intro listed L F R T h hb v k w g a r hQ
   have:L=[]:=List.eq_nil_of_length_eq_zero (by omega)
   subst this
   refine ⟨?_,hQ _ _ _ g _ k (λ_ _ h=>h) r (Good.refl r.ok r.hB)⟩
   rw[List.eq_nil_iff_forall_not_mem]
   intro i hi
   obtain ⟨W,h2,_⟩:=Xm hi
   have:=(R.iff i W).1 h2
   cases this
 | succ f ih=>
   intro listed L F R T h hb v k w g a r hQ
   refine ⟨λhr=>?_,λi hi=>?_⟩
   ·have:=c listed L R hr
    subst this
    exact hQ _ _ _ g _ k (λ_ _ h=>h) r (Good.refl r.ok r.hB)
   ·obtain ⟨W,h2,o,D,h3⟩:=Xm hi
    have η:=(R.iff i W).1 h2
    obtain ⟨q,J,rfl⟩:=List.mem_map.1 η
    obtain ⟨pre,post,rfl⟩:=List.append_of_mem J
    obtain ⟨kq,ο⟩:=R.ent q J
    obtain ⟨o',C,qe,_,_,_⟩:=vB ο
    rw[D] at C
    injection C with C
    subst C
    have ι:=Wz (post:=post) R D h3 [] pre (by simp)
    have V:=KQ D qe post pre ι (λhc=>v q J o D hc) k
    have hu:Upto φ h.length:=Z.mono hb
    have Y:((pre++post).map (·.1)).Nodup/\q.1∉(pre++post).map (·.1):=by
     have:=R.nodup
     simp only[List.map_append,List.map_cons] at this⊢
     rw[List.nodup_append] at this
     obtain ⟨n1,n2,n3⟩:=this
     rw[List.nodup_cons] at n2
     refine ⟨?_,?_⟩
     ·rw[List.nodup_append]
      exact ⟨n1,n2.2,λa ha b hb=>n3 a ha b (by simp[hb])⟩
     ·intro z
      rcases List.mem_append.1 z with z | z
      ·exact n3 _ z q.1 (by simp) rfl
      ·exact n2.1 z
    have t:(pre++post).Sublist (pre++q::post):=List.Sublist.append_left (List.sublist_cons_self q post) pre
    have H:=λm d=>x2a (listed:=listed) (i:=q.1) (by rw[R.size];exact W) m d
    have R':Rest ops (listed.setIfInBounds q.1 true) (pre++post):=by
     refine ⟨by simp[R.size],Y.1,λm z=>?_,R.pair.sublist t,λp s=>R.ent p (t.subset s),λm p s z j X=>?_⟩
     ·rw[H]
      by_cases e:m=q.1
      ·subst e;simp only[if_true];exact ⟨λh=>(by cases h),λh=>absurd h Y.2⟩
      ·rw[if_neg e,R.iff m z]
       simp[e]
     ·rw[H] at z⊢
      split
      ·rfl
      ·by_cases e:m=q.1
       ·subst e
        rw[D] at s
        injection s with s
        subst s
        exact h3 j X
       ·rw[if_neg e] at z
        exact R.down m p s z j X
    refine Wy (q:=less q pre) hu Z D ?_ V r λT' h' w' a' k' ⟨g',q1,q2,q3⟩=>?_
    ·rw[List.all_eq_true] at G
     exact G o (by simpa using Array.mem_of_getElem? D)
    ·refine ih _ (pre++post) (by simp at F ⊢;omega) R' (Nat.le_trans hb (Qb q3)) (λp s o2 I U=>?_) k' q2 λT2 h2 w2 g2 a2 k2 rr r2 z2=>hQ _ _ _ g2 _ k2 (λj X hr=>rr j X (q1 j (λ_=>by simp only[less];omega) hr)) r2 (q3.trans z2)
     refine q1 _ (λhc=>?_) (v p (t.subset s) o2 I U)
     have u:kC ops p q=true∨kC ops q p=true:=by
      rcases List.mem_append.1 s with s | s
      ·exact .inl ((List.pairwise_append.1 R.pair).2.2 p s q (by simp))
      ·exact .inr ((List.pairwise_cons.1 (List.pairwise_append.1 R.pair).2.1).1 p s)
     have O:p.2.1≠q.2.1:=by
      rcases u with u | u
      ·obtain ⟨x,y,E,A,_,_,_,e3⟩:=kp u
       rw[I] at E;injection E with E;subst E
       rw[D] at A;injection A with A;subst A
       exact e3 U hc
      ·obtain ⟨x,y,E,A,_,_,_,e3⟩:=kp u
       rw[D] at E;injection E with E;subst E
       rw[I] at A;injection A with A;subst A
       exact λe=>e3 hc U e.symm
     simp only[less]
     omega
theorem x3a {id:Nat} {Q:jl} (O:P.follows .mixedOrders=true) (k:Nat) (b:List Ent) (H:ops.toList.all (kY N)=true) (e:Xi ops k b=true) (kk:wpE P ops h.length (Q .normal) b T (h++List.replicate k .res)):AWp P N B (.region id ops true) Q T h:=λφ z w g a r=>by
 simp only[Xi,Bool.and_eq_true,List.all_eq_true,decide_eq_true_eq,List.contains_eq_mem,List.mem_range] at e
 obtain ⟨⟨⟨⟨⟨G,S⟩,y⟩,I⟩,M⟩,l⟩:=e
 have j:=Good.drew (g:=g) r.ok r.hB
 have x:=QG j.size k j.ok
 have m:=j.trans x
 have u:fill φ (h++List.replicate k .res)=fill φ h++List.replicate k .res:=q8 z
 rw[<-u] at m
 have A:Rel N B w.drew g (fill φ (h++List.replicate k .res)) a T:=⟨m.ok,m.size,λi=>AR.le m.le _ _ (r.t i),r.d,r.n⟩
 refine wp_region_any O ?_
 have R:Rest ops (Array.replicate ops.size false) b:=by
  refine ⟨by simp,M,λi f=>?_,wo b G,λq v=>⟨k,y q v⟩,λi o s L=>?_⟩
  ·simp[Array.getD_eq_getD_getElem?,f]
   have:=I i f
   simpa using this
  ·have f:i<ops.size:=by
    rcases Nat.lt_or_ge i ops.size with h | h
    ·exact h
    ·rw[Array.getElem?_eq_none h] at s;cases s
   simp[Array.getD_eq_getD_getElem?,f] at L
 refine KR (K:=Q .normal) z S H ops.size _ b l R (by simp) (λq v o s J=>?_) kk A λE h' w' g' U k' C D q=>⟨E,h',k',g',λi f=>?_,D,m.trans q⟩
 ·obtain ⟨o',c,_,_,F,_⟩:=vB (y q v)
  rw[s] at c
  injection c with c
  subst c
  have:=F J
  rw[List.getElem?_append_right (by omega),Nat.add_sub_cancel_left,List.getElem?_replicate,if_pos this]
 ·have p:=(List.getElem?_eq_some_iff.1 f).1
  exact C i p (by rw[List.getElem?_append_left p];exact f)
end
end Go.Proofs.YtfmldcilgbbimaaGreat.Ax
