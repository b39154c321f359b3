/-
  Joined.
-/
import Derived.Test.YtigdlmpjijhpaaaGreatK08
set_option linter.unusedSimpArgs false
set_option linter.unusedVariables false
namespace Go.Proofs.YtigdlmpjijhpaaaGreat.Ax
open Go Go.RowKit
section
variable {P:Program} {N:Nat} {B:Bs} {ops:Array Oper} {T:Env} {h:List Ob} {K K':Env->List Ob->Prop} {b:Nat}
def kja (ops:Array Oper) (i:Ent) (o:Oper):List Ent->Prop
 | []=>True
 | j ::r=>(∃x,ops[j.1]? =some x/\wV ops j i x o=true/\(cls x.op≠2->j.2.2=[])/\(cls x.op=3->cls o.op=3->j.2.1≠i.2.1)/\(∀l∈j.2.2,xk ops l i.1=true)/\
     (j.1∈i.2.2->∀d,x.dst=some d->jP ops x d=false)/\j.1∉r.map (·.1)/\(∀l∈i.2.2,l≠j.1->l∉r.map (·.1)->xk ops l j.1=true))/\kja ops i o r
def less (i:Ent) (pre:List Ent):Ent:=(i.1,i.2.1,i.2.2.filter λl=> !(pre.map (·.1)).contains l)
theorem WH {j i:Ent} {x o:Oper} {r:List Ent} (b:wV ops j i x o=true) (c:j.1∉r.map (·.1)):wV ops j (less i r) x o=true:=by
 simp only[wV,Bool.and_eq_true,Bool.or_eq_true,beq_iff_eq,bne_iff_ne,ne_eq,decide_eq_true_eq] at b⊢
 refine ⟨b.1,?_⟩
 rcases b.2 with ((((h | h) | h) | ⟨h,a⟩) | ⟨h,a⟩) | ⟨h,a⟩
 ·exact .inl (.inl (.inl (.inl (.inl h))))
 ·exact .inl (.inl (.inl (.inl (.inr h))))
 ·exact .inl (.inl (.inl (.inr h)))
 ·refine .inl (.inl (.inr ⟨h,?_⟩))
  have a:j.1∈i.2.2:=by simpa using a
  simp only[less,List.contains_eq_mem,decide_eq_true_eq,List.mem_filter,a,true_and]
  simpa using c
 ·refine .inl (.inr ⟨h,?_⟩)
  have:i.2.2=[]:=by simpa using a
  simp[less,this]
 ·refine .inr ⟨h,?_⟩
  have:i.2.2=[]:=by simpa using a
  simp[less,this]
theorem KW {i:Ent} {o:Oper} (p:ops[i.1]? =some o) (f:cls o.op≠2->i.2.2=[]) (post:List Ent):∀(pre:List Ent),kja ops i o pre->∀ {T:Env} {h:List Ob},(cls o.op=3->h[b+i.2.1]? =some .res)->
  wpE P ops b K (pre++i::post) T h->jA P ops b (less i pre) o (wpE P ops b K (pre++post)) T h
 | [],_,T,h,_,k=>by
   simp only[List.nil_append,wpE,p] at k
   have:less i []=i:=by
    have:i.2.2.filter (λl=> !(([]:List Ent).map (·.1)).contains l)=i.2.2:=List.filter_eq_self.2 (by simp)
    simp only[less,this]
   rw[this]
   exact k
 | j::pre,⟨⟨x,t,C,w,s,f5,f6,f7,E⟩,D⟩,T,h,u,k=>by
   simp only[List.cons_append,wpE,t] at k⊢
   have k2:jA P ops b j x (jA P ops b (less i pre) o (wpE P ops b K (pre++post))) T h:=zka k λF h' d k'=>by
    refine KW p f post pre D (λg=>d _ (λz=>?_) (u g)) k'
    have:=s z g
    omega
   have c:∀l,l∈(less i (j::pre)).2.2↔l∈i.2.2/\l≠j.1/\l∉pre.map (·.1):=λl=>by
    simp only[less,List.mem_filter,List.map_cons,List.contains_eq_mem,Bool.not_eq_true',decide_eq_false_iff_not,List.mem_cons,not_or]
   have a:∀l,l∈(less i pre).2.2↔l∈i.2.2/\l∉pre.map (·.1):=λl=>by
    simp only[less,List.mem_filter,List.contains_eq_mem,Bool.not_eq_true',decide_eq_false_iff_not]
   have:=QKa (q:=less i pre) (l2:=(less i (j::pre)).2.2) (y:=o) t (WH C f7) w (λg=>by simp[less,f g]) p
    (λl n=>by
     obtain ⟨m,r,v⟩:=(c l).1 n
     exact ⟨(a l).2 ⟨m,v⟩,E l m r v⟩) f5 (λl n B=>by
     obtain ⟨m,r⟩:=(a l).1 n
     by_cases e:l=j.1
     ·exact e
     ·exact absurd ((c l).2 ⟨m,e,r⟩) B) u s (λA=>f6 ((a _).1 A).1) k2
   exact this
theorem wW {listed:Array Bool} (a:∀i o,ops[i]? =some o->listed.getD i true=true->∀j∈kv o,listed.getD j false=true):
  ∀(f j i:Nat) (o:Oper),ops[i]? =some o->(∀k∈kv o,listed.getD k false=true)->wD ops f j i=true->listed.getD j false=true
 | 0,j,i,o,m,g,h=>by
   simp only[wD,m,List.contains_eq_mem,decide_eq_true_eq] at h
   exact g j h
 | f+1,j,i,o,m,g,h=>by
   simp only[wD,m,List.contains_eq_mem,Bool.or_eq_true,decide_eq_true_eq,List.any_eq_true,Bool.and_eq_true] at h
   rcases h with h | ⟨k,n,_,h⟩
   ·exact g j h
   ·have c:=g k n
    cases d:ops[k]? with
    | none=>cases f<;>simp[wD,d] at h
    | some p=>
      have l:listed.getD k true=true:=by
       rw[Array.getD_eq_getD_getElem?] at c⊢
       cases e:listed[k]? with
       | none=>rfl
       | some b=>rw[e] at c;simpa using c
      exact wW a f j k p d (a k p d l) h
theorem Jn:∀(l:List Oper) (i:Nat),QL ops i l=true->∀(m:Nat) (o:Oper),l[m]? =some o->∀j∈kv o,j<i+m
 | [],_,_,m,o,a,_,_=>by simp at a
 | o::l,i,h,0,p,a,j,b=>by
   simp only[QL,Bool.and_eq_true,List.all_eq_true,decide_eq_true_eq] at h
   injection a with a
   subst a
   exact h.1 j b
 | o::l,i,h,m+1,p,a,j,b=>by
   simp only[QL,Bool.and_eq_true,List.all_eq_true,decide_eq_true_eq] at h
   have:=Jn l (i+1) h.2 m p a j b
   omega
theorem Xr {listed:Array Bool} {i:Nat} (h:i∈Region.ready .any ops listed):i<ops.size/\listed.getD i true=false/\∃o,ops[i]? =some o/\∀j∈kv o,listed.getD j false=true:=by
 simp only[Region.ready,List.mem_filter,List.mem_range,Bool.and_eq_true,Bool.not_eq_true'] at h
 obtain ⟨b,f,a⟩:=h
 refine ⟨b,f,ops[i],Array.getElem?_eq_getElem b,λj c=>?_⟩
 simp only[Array.getElem?_eq_getElem b,Option.map_some,Option.getD_some] at a
 rw[Array.all_eq_true_iff_forall_mem] at a
 simp only[kv,List.mem_map,List.mem_filter] at c
 obtain ⟨e,⟨g,d⟩,rfl⟩:=c
 have:=a e (by simpa using g)
 simpa [d] using this
theorem kka {listed:Array Bool} {i:Nat} {o:Oper} (d:i<ops.size) (c:listed.getD i true=false) (g:ops[i]? =some o) (a:∀j∈kv o,listed.getD j false=true):i∈Region.ready .any ops listed:=by
 simp only[Region.ready,List.mem_filter,List.mem_range,Bool.and_eq_true,Bool.not_eq_true']
 refine ⟨d,c,?_⟩
 simp only[g,Option.map_some,Option.getD_some]
 rw[Array.all_eq_true_iff_forall_mem]
 intro e f
 cases b:Region.binds .any e with
 | false=>simp
 | true=>
   have:=a e.on (by simp only[kv,List.mem_map,List.mem_filter];exact ⟨e,⟨by simpa using f,b⟩,rfl⟩)
   simpa using this
theorem Qo {φ:Nat->Ob} {i:Nat} {o:Oper} (G:ops[i]? =some o) (D:vf N o=true) {run:(Env->List Ob->Prop)->Env->List Ob->Prop} (k:jz ops o run K T h) {Q:Exit->Act->World->Prop} {w:World} {g:Gh} {a:Act} (r:Rel N B w g (fill φ h) a T)
  {next:Act->World->Prop} (l:run K T h->o.wp P a w next Q) (F:∀C h' w' A,K C h'->Aft N B φ w g h C h' A w'->next A w'):wpOp P ops Q i next a w:=by
 have f:K (zN T o.dst (.v undef)) h->next (a.put o.dst undef) w:=λk=>
  F _ _ _ _ k ⟨g,.refl,vn r (Good.refl r.ok r.hB) (x:= .v undef) rfl D,Good.refl r.ok r.hB⟩
 unfold jz at k
 unfold wpOp
 simp only[G]
 split at k
 ·rename_i n
  rw[if_pos (by simp[Region.wanted,n])]
  exact .inl (l k)
 ·rename_i j m n
  split at k
  ·rename_i d p
   have q:yielded ops a.tmps j=match a.tmps[d]? with | some (.bool b)=>some b | _=>none:=by
    simp only[yielded,p,Option.bind_some]
    rfl
   have c:=r.t d
   rw[Array.getD_eq_getD_getElem?] at c
   split at k
   ·rename_i b y
    rw[y] at c
    have c:(a.tmps[d]?).getD undef= .bool b:=c
    have E:a.tmps[d]? =some (.bool b):=by
     cases e:a.tmps[d]? with
     | none=>rw[e] at c;cases c
     | some u=>rw[e] at c;exact congrArg some c
    rw[E] at q
    by_cases s:b=m
    ·rw[if_pos (by simp[Region.wanted,n,q,s])]
     exact .inl (l (k.1 s))
    ·rw[if_neg (by simp[Region.wanted,n,q,s])]
     exact f (k.2 s)
   ·rename_i vs y
    rw[y] at c
    have c:(a.tmps[d]?).getD undef= .tuple vs:=c
    have z:yielded ops a.tmps j=none:=by
     rw[q]
     cases e:a.tmps[d]? with
     | none=>rfl
     | some u=>rw[e] at c;have:u= .tuple vs:=c;subst this;rfl
    rw[if_neg (by simp[Region.wanted,n,z])]
    exact f k
   ·exact k.elim
  ·exact k.elim
theorem WI {φ:Nat->Ob} (F:Upto φ h.length) (u:Upto φ b) {q:Ent} {o:Oper} (A:ops[q.1]? =some o) (p:vf N o=true) (k:jA P ops b q o K T h) {Q:Exit->Act->World->Prop} {w:World} {g:Gh} {a:Act} (r:Rel N B w g (fill φ h) a T)
  {next:Act->World->Prop} (n:∀c h' w' f,K c h'->(∃g',(∀j,(cls o.op=3->j≠b+q.2.1)->h[j]? =some .res->h'[j]? =some .res)/\Rel N B w' g' (fill φ h') f c/\Good B.b w g (fill φ h) w' g' (fill φ h'))->next f w'):wpOp P ops Q q.1 next a w:=by
 by_cases y:cls o.op=3
 ·rw[xl y] at k
  refine Qo A p (K:=λc h'=>K c h') k r (λk=>?_) λc h' w' f k' ⟨g',l,d,i⟩=>n _ _ _ _ k' ⟨g',λj _=>l j,d,i⟩
  unfold yJ at k
  split at k
  ·rename_i ob mk E
   obtain ⟨dst,op,type,pos,after,guard⟩:=o
   obtain ⟨v,w',D,m⟩:=J6 r.ok r.hB r.t E dst type pos after guard
   have z:=m.live
   have s:(fill φ h)[b+q.2.1]? =some .res:=by
    rw[xQ,k.1]
    simp only[Option.map_some,Z8]
    rw[if_pos (show (Ob.res).isRes=true from rfl),u _ (by omega)]
   obtain ⟨g',x,C⟩:=m.at r.ok r.hB s
   rw[<-q9 z] at x C
   unfold Oper.wp
   rw[D]
   refine n _ _ _ _ k.2 ⟨g',λj H G=>?_,vn r x C p,x⟩
   rw[List.getElem?_set_ne (λe=>H y e.symm)]
   exact G
  ·exact k.elim
 ·rw[xS y] at k
  exact Qo A p (jm k λ_ _ k=>k.2) r (λk=>Xf F p k r λc h' w' f k' ⟨g',l,d,i⟩=>n _ _ _ _ k' ⟨g',λj _=>l j,d,i⟩) λc h' w' f k' ⟨g',l,d,i⟩=>n _ _ _ _ k' ⟨g',λj _=>l j,d,i⟩
theorem wv:∀(l:List Ent),Ql ops l=true->l.Pairwise λx y=>kJ ops x y=true
 | [],_=> .nil
 | x::r,h=>by
   simp only[Ql,Bool.and_eq_true,List.all_eq_true] at h
   exact .cons h.1 (wv r h.2)
theorem kx {p q:Ent} (h:kJ ops p q=true):∃x y,ops[p.1]? =some x/\ops[q.1]? =some y/\(wD ops 8 p.1 q.1=true∨wV ops p q x y=true)/\wD ops 8 q.1 p.1=false/\q.1∉p.2.2/\(cls x.op=3->cls y.op=3->p.2.1≠q.2.1):=by
 unfold kJ at h
 split at h
 ·rename_i x y d b
  simp only[Bool.and_eq_true,Bool.or_eq_true,Bool.not_eq_true',bne_iff_ne,ne_eq,List.contains_eq_mem,decide_eq_false_iff_not] at h
  refine ⟨x,y,d,b,h.1.1.1,h.1.1.2,h.1.2,λa c=>?_⟩
  rcases h.2 with (h | h) | h
  ·exact absurd a h
  ·exact absurd c h
  ·exact h
 ·cases h
structure Rest (ops:Array Oper) (listed:Array Bool) (L:List Ent):Prop where
 size:listed.size=ops.size
 nodup:(L.map (·.1)).Nodup
 iff:∀i,i<ops.size->(listed.getD i true=false↔i∈L.map (·.1))
 pair:L.Pairwise λx y=>kJ ops x y=true
 ent:∀q∈L,∃k,qAa ops k q=true
 down:∀i o,ops[i]? =some o->listed.getD i true=true->∀j∈kv o,listed.getD j false=true
theorem kla {listed:Array Bool} {i:Nat} (a:i<listed.size) (m:Nat) (d:Bool):(listed.setIfInBounds i true).getD m d=if m=i then true else listed.getD m d:=by
 simp only[Array.getD_eq_getD_getElem?]
 split
 ·rename_i e;subst e;simp[Array.getElem?_setIfInBounds,a]
 ·rename_i e;rw[Array.getElem?_setIfInBounds_ne (λh=>e h.symm)]
theorem vI {k:Nat} {q:Ent} (h:qAa ops k q=true):∃o,ops[q.1]? =some o/\(cls o.op≠2->q.2.2=[])/\q.1∉q.2.2/\(cls o.op=3->q.2.1<k)/\∀l∈q.2.2,wo ops l=true:=by
 unfold qAa at h
 split at h
 ·rename_i o f
  simp only[Bool.and_eq_true,Bool.or_eq_true,beq_iff_eq,bne_iff_ne,ne_eq,decide_eq_true_eq,Bool.not_eq_true',List.contains_eq_mem,decide_eq_false_iff_not,List.all_eq_true,List.isEmpty_iff] at h
  obtain ⟨⟨⟨b,a⟩,d⟩,e⟩:=h
  refine ⟨o,f,λc=>?_,d,λc=>?_,e⟩
  ·rcases b with b | b
   ·exact absurd b c
   ·exact b
  ·rcases a with a | a
   ·exact absurd c a
   ·exact a
 ·cases h
theorem Xs {l p:Nat} (h:wo ops l=true) (a:p<ops.size):p=l∨wD ops 8 p l=true∨xk ops l p=true:=by
 simp only[wo,Bool.and_eq_true,List.all_eq_true,List.mem_range,Bool.or_eq_true,beq_iff_eq] at h
 rcases h.2 p a with (h | h) | h
 ·exact .inl h
 ·exact .inr (.inl h)
 ·exact .inr (.inr h)
theorem zpa {l:Nat} {x:Oper} (h:wo ops l=true) (a:ops[l]? =some x):∀d,x.dst=some d->jP ops x d=false:=λd b=>by
 simp only[wo,Bool.and_eq_true,a] at h
 have:=h.1.2
 rw[b] at this
 simpa using this
theorem WJ {listed:Array Bool} {L:List Ent} (R:Rest ops listed L) {i:Ent} {o:Oper} {post:List Ent} (D:ops[i.1]? =some o) (U:∀j∈kv o,listed.getD j false=true):∀(c pre:List Ent),L=c++pre++i::post->kja ops i o pre
 | _,[],_=>trivial
 | c,j::pre,e=>by
   have E:j∈L:=by rw[e];simp
   have N:i∈L:=by rw[e];simp
   have b:∀q∈L,q.1<ops.size:=λq r=>by
    obtain ⟨k,Z⟩:=R.ent q r
    obtain ⟨o,T,_⟩:=vI Z
    rcases Nat.lt_or_ge q.1 ops.size with h | h
    ·exact h
    ·rw[Array.getElem?_eq_none h] at T;cases T
   have B:∀q∈L,listed.getD q.1 false=false:=λq r=>by
    have:=(R.iff q.1 (b q r)).2 (List.mem_map.2 ⟨q,r,rfl⟩)
    rw[Array.getD_eq_getD_getElem?] at this⊢
    rw[Array.getElem?_eq_getElem (by rw[R.size];exact b q r)] at this⊢
    simpa using this
   have m:∀q∈L,∀l,listed.getD l true=true->l<ops.size->wD ops 8 q.1 l=false:=λq r l f G=>by
    rw[Bool.eq_false_iff]
    intro v
    have C:ops[l]? =some ops[l]:=Array.getElem?_eq_getElem G
    have:=wW R.down 8 q.1 l _ C (R.down l _ C f) v
    rw[B q r] at this
    cases this
   obtain ⟨kj,M⟩:=R.ent j E
   obtain ⟨x,F,X,x2,_,x4⟩:=vI M
   obtain ⟨ki,Q⟩:=R.ent i N
   obtain ⟨o',t,i1,i2,_,S⟩:=vI Q
   rw[D] at t
   injection t with t
   subst t
   have d:=R.pair
   rw[e] at d
   have O:kJ ops j i=true:=(List.pairwise_append.1 d).2.2 j (by simp) i (by simp)
   obtain ⟨x',y',p1,p2,z,p4,Y,V⟩:=kx O
   rw[F] at p1;injection p1 with p1;subst p1
   rw[D] at p2;injection p2 with p2;subst p2
   have H:wD ops 8 j.1 i.1=false:=by
    rw[Bool.eq_false_iff]
    intro v
    have:=wW R.down 8 j.1 i.1 o D U v
    rw[B j E] at this
    cases this
   have I:wV ops j i x o=true:=by
    rcases z with z | z
    ·rw[H] at z;cases z
    ·exact z
   have before:∀l∈c,∀q,q=i∨q∈j::pre->kJ ops l q=true:=λl f q r=>by
    rw[List.append_assoc] at d
    refine (List.pairwise_append.1 d).2.2 l f q ?_
    rcases r with rfl | r
    ·simp
    ·simp only[List.mem_append];exact .inl r
   have u:∀l,wo ops l=true->l<ops.size:=λl f=>by
    simp only[wo,Bool.and_eq_true] at f
    rcases Nat.lt_or_ge l ops.size with h | h
    ·exact h
    ·have:=f.1;rw[Array.getElem?_eq_none h] at this;simp at this
   refine ⟨⟨x,F,I,X,V,λl f=>?_,λW=>zpa (S _ W) F,?_,λl f A J=>?_⟩,WJ (post:=post) R D U (c++[j]) pre (by rw[e];simp)⟩
   ·have g:=x4 l f
    rcases Xs g (b i N) with h | h | h
    ·exact absurd (h▸f) Y
    ·exfalso
     by_cases n:listed.getD l true=true
     ·rw[m i N l n (u l g)] at h;cases h
     ·have w:=(R.iff l (u l g)).1 (by simpa using n)
      obtain ⟨s,a,rfl⟩:=List.mem_map.1 w
      rw[e] at a
      have p:kJ ops j s=true∨s=j∨s∈c:=by
       rcases List.mem_append.1 a with a | a
       ·rcases List.mem_append.1 a with a | a
        ·exact .inr (.inr a)
        ·rcases List.mem_cons.1 a with rfl | a
         ·exact .inr (.inl rfl)
         ·refine .inl ?_
          have:=(List.pairwise_append.1 d).1
          have:=(List.pairwise_append.1 this).2.1
          exact (List.pairwise_cons.1 this).1 s a
       ·exact .inl ((List.pairwise_append.1 d).2.2 j (by simp) s a)
      rcases p with p | rfl | p
      ·obtain ⟨_,_,_,_,_,_,K,_⟩:=kx p
       exact K f
      ·exact x2 f
      ·obtain ⟨_,_,_,_,_,P,_,_⟩:=kx (before s p i (.inl rfl))
       rw[P] at h;cases h
    ·exact h
   ·have y:=R.nodup
    rw[e] at y
    simp only[List.map_append,List.map_cons,List.append_assoc] at y
    have:=(List.nodup_append.1 y).2.1
    have:=(List.nodup_append.1 this).1
    exact (List.nodup_cons.1 this).1
   ·have g:=S l f
    rcases Xs g (b j E) with h | h | h
    ·exact absurd h.symm A
    ·exfalso
     by_cases n:listed.getD l true=true
     ·rw[m j E l n (u l g)] at h;cases h
     ·have w:=(R.iff l (u l g)).1 (by simpa using n)
      obtain ⟨s,a,rfl⟩:=List.mem_map.1 w
      rw[e] at a
      rcases List.mem_append.1 a with a | a
      ·rcases List.mem_append.1 a with a | a
       ·obtain ⟨_,_,_,_,_,P,_,_⟩:=kx (before s a j (.inr (by simp)))
        rw[P] at h;cases h
       ·rcases List.mem_cons.1 a with rfl | a
        ·exact A rfl
        ·exact J (List.mem_map.2 ⟨s,a,rfl⟩)
      ·rcases List.mem_cons.1 a with rfl | a
       ·exact i2 f
       ·have:=(List.pairwise_append.1 d).2.1
        obtain ⟨_,_,_,_,_,_,K,_⟩:=kx ((List.pairwise_cons.1 this).1 s a)
        exact K f
    ·exact h
theorem KX {φ:Nat->Ob} (Y:Upto φ b) (S:QL ops 0 ops.toList=true) (G:ops.toList.all (vf N)=true) {Q:Exit->Act->World->Prop}:
  ∀ (c:Nat) (listed:Array Bool) (L:List Ent),L.length<=c->Rest ops listed L->∀ {T:Env} {h:List Ob},b<=h.length->(∀q∈L,∀o,ops[q.1]? =some o->cls o.op=3->h[b+q.2.1]? =some .res)->
    wpE P ops b K L T h->∀ {w:World} {g:Gh} {a:Act},Rel N B w g (fill φ h) a T->(∀T' h' w' g' a',K T' h'->(∀j,j<b->h[j]? =some .res->h'[j]? =some .res)->Rel N B w' g' (fill φ h') a' T'->Good B.b w g (fill φ h) w' g' (fill φ h')->Q .normal a' w')->wpAny P .any ops Q c listed a w:=by
 have W:∀(listed:Array Bool) (L:List Ent),Rest ops listed L->∀q∈L,q.1<ops.size:=λlisted L R q hq=>by
  obtain ⟨k,hk⟩:=R.ent q hq
  obtain ⟨o,O,_⟩:=vI hk
  rcases Nat.lt_or_ge q.1 ops.size with h | h
  ·exact h
  ·rw[Array.getElem?_eq_none h] at O;cases O
 have f:∀(listed:Array Bool) (L:List Ent),Rest ops listed L->Region.ready .any ops listed=[]->L=[]:=by
  intro listed L R hr
  by_cases M:L=[]
  ·exact M
  exfalso
  have hex:∃n,n∈L.map (·.1):=List.exists_mem_of_ne_nil _ (by simpa using M)
  obtain ⟨n,hn,Z⟩:=least hex
  obtain ⟨q,hq,rfl⟩:=List.mem_map.1 hn
  have l:=W listed L R q hq
  have:q.1∈Region.ready .any ops listed:=kka l ((R.iff q.1 l).2 hn) (Array.getElem?_eq_getElem l) λj X=>by
   have θ:=Jn ops.toList 0 S q.1 ops[q.1] (by simp[l]) j X
   rw[Nat.zero_add] at θ
   have η:j<ops.size:=by omega
   have ξ:¬ j∈L.map (·.1):=λh=>by have:=Z j h;omega
   have:¬ listed.getD j true=false:=λh=>ξ ((R.iff j η).1 h)
   rw[Array.getD_eq_getD_getElem?] at this⊢
   rw[Array.getElem?_eq_getElem (by rw[R.size];omega)] at this⊢
   simpa using this
  rw[hr] at this
  cases this
 intro c
 induction c with
 | zero=>
   intro listed L F R T h hb t k w g a r hQ
   have:L=[]:=List.eq_nil_of_length_eq_zero (by omega)
   subst this
   refine ⟨?_,hQ _ _ _ g _ k (λ_ _ h=>h) r (Good.refl r.ok r.hB)⟩
   rw[List.eq_nil_iff_forall_not_mem]
   intro i hi
   obtain ⟨O,h2,_⟩:=Xr hi
   have:=(R.iff i O).1 h2
   cases this
 | succ c ih=>
   intro listed L F R T h hb t k w g a r hQ
   refine ⟨λhr=>?_,λi hi=>?_⟩
   ·have:=f listed L R hr
    subst this
    exact hQ _ _ _ g _ k (λ_ _ h=>h) r (Good.refl r.ok r.hB)
   ·obtain ⟨O,h2,o,D,h3⟩:=Xr hi
    have ρ:=(R.iff i O).1 h2
    obtain ⟨q,I,rfl⟩:=List.mem_map.1 ρ
    obtain ⟨pre,post,rfl⟩:=List.append_of_mem I
    obtain ⟨kq,ι⟩:=R.ent q I
    obtain ⟨o',E,qe,_,_,_⟩:=vI ι
    rw[D] at E
    injection E with E
    subst E
    have ν:=WJ (post:=post) R D h3 [] pre (by simp)
    have J:=KW D qe post pre ν (λhc=>t q I o D hc) k
    have hu:Upto φ h.length:=Y.mono hb
    have γ:((pre++post).map (·.1)).Nodup/\q.1∉(pre++post).map (·.1):=by
     have:=R.nodup
     simp only[List.map_append,List.map_cons] at this⊢
     rw[List.nodup_append] at this
     obtain ⟨n1,n2,n3⟩:=this
     rw[List.nodup_cons] at n2
     refine ⟨?_,?_⟩
     ·rw[List.nodup_append]
      exact ⟨n1,n2.2,λa ha b hb=>n3 a ha b (by simp[hb])⟩
     ·intro u
      rcases List.mem_append.1 u with u | u
      ·exact n3 _ u q.1 (by simp) rfl
      ·exact n2.1 u
    have v:(pre++post).Sublist (pre++q::post):=List.Sublist.append_left (List.sublist_cons_self q post) pre
    have H:=λm d=>kla (listed:=listed) (i:=q.1) (by rw[R.size];exact O) m d
    have R':Rest ops (listed.setIfInBounds q.1 true) (pre++post):=by
     refine ⟨by simp[R.size],γ.1,λm u=>?_,R.pair.sublist v,λp s=>R.ent p (v.subset s),λm p s u j X=>?_⟩
     ·rw[H]
      by_cases e:m=q.1
      ·subst e;simp only[if_true];exact ⟨λh=>(by cases h),λh=>absurd h γ.2⟩
      ·rw[if_neg e,R.iff m u]
       simp[e]
     ·rw[H] at u⊢
      split
      ·rfl
      ·by_cases e:m=q.1
       ·subst e
        rw[D] at s
        injection s with s
        subst s
        exact h3 j X
       ·rw[if_neg e] at u
        exact R.down m p s u j X
    refine WI (q:=less q pre) hu Y D ?_ J r λT' h' w' a' k' ⟨g',q1,q2,q3⟩=>?_
    ·rw[List.all_eq_true] at G
     exact G o (by simpa using Array.mem_of_getElem? D)
    ·refine ih _ (pre++post) (by simp at F ⊢;omega) R' (Nat.le_trans hb (Qi q3)) (λp s o2 U V=>?_) k' q2 λT2 h2 w2 g2 a2 k2 rr r2 z2=>hQ _ _ _ g2 _ k2 (λj X hr=>rr j X (q1 j (λ_=>by simp only[less];omega) hr)) r2 (q3.trans z2)
     refine q1 _ (λhc=>?_) (t p (v.subset s) o2 U V)
     have z:kJ ops p q=true∨kJ ops q p=true:=by
      rcases List.mem_append.1 s with s | s
      ·exact .inl ((List.pairwise_append.1 R.pair).2.2 p s q (by simp))
      ·exact .inr ((List.pairwise_cons.1 (List.pairwise_append.1 R.pair).2.1).1 p s)
     have M:p.2.1≠q.2.1:=by
      rcases z with z | z
      ·obtain ⟨x,y,A,C,_,_,_,e3⟩:=kx z
       rw[U] at A;injection A with A;subst A
       rw[D] at C;injection C with C;subst C
       exact e3 V hc
      ·obtain ⟨x,y,A,C,_,_,_,e3⟩:=kx z
       rw[D] at A;injection A with A;subst A
       rw[U] at C;injection C with C;subst C
       exact λe=>e3 hc V e.symm
     simp only[less]
     omega
theorem kma {id:Nat} {Q:jr} (A:P.follows .mixedOrders=true) (k:Nat) (b:List Ent) (M:ops.toList.all (vf N)=true) (e:Xn ops k b=true) (kk:wpE P ops h.length (Q .normal) b T (h++List.replicate k .res)):AWp P N B (.region id ops true) Q T h:=λφ z w g a r=>by
 simp only[Xn,Bool.and_eq_true,List.all_eq_true,decide_eq_true_eq,List.contains_eq_mem,List.mem_range] at e
 obtain ⟨⟨⟨⟨⟨D,E⟩,y⟩,F⟩,C⟩,m⟩:=e
 have f:=Good.drew (g:=g) r.ok r.hB
 have u:=QK f.size k f.ok
 have p:=f.trans u
 have x:fill φ (h++List.replicate k .res)=fill φ h++List.replicate k .res:=jh z
 rw[<-x] at p
 have J:Rel N B w.drew g (fill φ (h++List.replicate k .res)) a T:=⟨p.ok,p.size,λi=>AR.le p.le _ _ (r.t i),r.d,r.n⟩
 refine wp_region_any A ?_
 have R:Rest ops (Array.replicate ops.size false) b:=by
  refine ⟨by simp,C,λi j=>?_,wv b D,λq v=>⟨k,y q v⟩,λi o s H=>?_⟩
  ·simp[Array.getD_eq_getD_getElem?,j]
   have:=F i j
   simpa using this
  ·have j:i<ops.size:=by
    rcases Nat.lt_or_ge i ops.size with h | h
    ·exact h
    ·rw[Array.getElem?_eq_none h] at s;cases s
   simp[Array.getD_eq_getD_getElem?,j] at H
 refine KX (K:=Q .normal) z E M ops.size _ b m R (by simp) (λq v o s I=>?_) kk J λS h' w' g' U k' L G q=>⟨S,h',k',g',λi j=>?_,G,p.trans q⟩
 ·obtain ⟨o',c,_,_,O,_⟩:=vI (y q v)
  rw[s] at c
  injection c with c
  subst c
  have:=O I
  rw[List.getElem?_append_right (by omega),Nat.add_sub_cancel_left,List.getElem?_replicate,if_pos this]
 ·have l:=(List.getElem?_eq_some_iff.1 j).1
  exact L i l (by rw[List.getElem?_append_left l];exact j)
end
end Go.Proofs.YtigdlmpjijhpaaaGreat.Ax
