/-
  Joined.
-/
import Derived.Test.YtfmldcilgbbimaaGreatK08
set_option linter.unusedSimpArgs false
set_option linter.unusedVariables false
namespace Go.Proofs.YtfmldcilgbbimaaGreat.Ax
open Go Go.RowKit
section
variable {P:Program} {N:Nat} {B:Bs} {ops:Array Oper} {T:Env} {h:List Ob} {K K':Env->List Ob->Prop} {b:Nat}
def yRa (ops:Array Oper) (i:Ent) (o:Oper):List Ent->Prop
 | []=>True
 | j ::r=>(∃x,ops[j.1]? =some x/\Zc ops j i x o=true/\(cls x.op≠2->j.2.2=[])/\(cls x.op=3->cls o.op=3->j.2.1≠i.2.1)/\(∀l∈j.2.2,xZ ops l i.1=true)/\
     (j.1∈i.2.2->∀d,x.dst=some d->xr ops x d=false)/\j.1∉r.map (·.1)/\(∀l∈i.2.2,l≠j.1->l∉r.map (·.1)->xZ ops l j.1=true))/\yRa ops i o r
def less (i:Ent) (pre:List Ent):Ent:=(i.1,i.2.1,i.2.2.filter λl=> !(pre.map (·.1)).contains l)
theorem qya {j i:Ent} {x o:Oper} {r:List Ent} (b:Zc ops j i x o=true) (c:j.1∉r.map (·.1)):Zc ops j (less i r) x o=true:=by
 simp only[Zc,Bool.and_eq_true,Bool.or_eq_true,beq_iff_eq,bne_iff_ne,ne_eq,decide_eq_true_eq] at b⊢
 refine ⟨b.1,?_⟩
 rcases b.2 with ((((h | h) | h) | ⟨h,a⟩) | ⟨h,a⟩) | ⟨h,a⟩
 ·exact .inl (.inl (.inl (.inl (.inl h))))
 ·exact .inl (.inl (.inl (.inl (.inr h))))
 ·exact .inl (.inl (.inl (.inr h)))
 ·refine .inl (.inl (.inr ⟨h,?_⟩))
  have a:j.1∈i.2.2:=by simpa using a
  simp only[less,List.contains_eq_mem,decide_eq_true_eq,List.mem_filter,a,true_and]
  simpa using c
 ·refine .inl (.inr ⟨h,?_⟩)
  have:i.2.2=[]:=by simpa using a
  simp[less,this]
 ·refine .inr ⟨h,?_⟩
  have:i.2.2=[]:=by simpa using a
  simp[less,this]
theorem Yp {i:Ent} {o:Oper} (n:ops[i.1]? =some o) (f:cls o.op≠2->i.2.2=[]) (post:List Ent):∀(pre:List Ent),yRa ops i o pre->∀ {T:Env} {h:List Ob},(cls o.op=3->h[b+i.2.1]? =some .res)->
  wpE P ops b K (pre++i::post) T h->jU P ops b (less i pre) o (wpE P ops b K (pre++post)) T h
 | [],_,T,h,_,k=>by
   simp only[List.nil_append,wpE,n] at k
   have:less i []=i:=by
    have:i.2.2.filter (λl=> !(([]:List Ent).map (·.1)).contains l)=i.2.2:=List.filter_eq_self.2 (by simp)
    simp only[less,this]
   rw[this]
   exact k
 | j::pre,⟨⟨x,u,A,D,t,f5,f6,f7,B⟩,w⟩,T,h,v,k=>by
   simp only[List.cons_append,wpE,u] at k⊢
   have k2:jU P ops b j x (jU P ops b (less i pre) o (wpE P ops b K (pre++post))) T h:=xla k λF h' d k'=>by
    refine Yp n f post pre w (λm=>d _ (λC=>?_) (v m)) k'
    have:=t C m
    omega
   have c:∀l,l∈(less i (j::pre)).2.2↔l∈i.2.2/\l≠j.1/\l∉pre.map (·.1):=λl=>by
    simp only[less,List.mem_filter,List.map_cons,List.contains_eq_mem,Bool.not_eq_true',decide_eq_false_iff_not,List.mem_cons,not_or]
   have a:∀l,l∈(less i pre).2.2↔l∈i.2.2/\l∉pre.map (·.1):=λl=>by
    simp only[less,List.mem_filter,List.contains_eq_mem,Bool.not_eq_true',decide_eq_false_iff_not]
   have:=Wca (q:=less i pre) (l2:=(less i (j::pre)).2.2) (y:=o) u (qya A f7) D (λm=>by simp[less,f m]) n
    (λl r=>by
     obtain ⟨g,p,s⟩:=(c l).1 r
     exact ⟨(a l).2 ⟨g,s⟩,B l g p s⟩) f5 (λl r E=>by
     obtain ⟨g,p⟩:=(a l).1 r
     by_cases e:l=j.1
     ·exact e
     ·exact absurd ((c l).2 ⟨g,e,p⟩) E) v t (λz=>f6 ((a _).1 z).1) k2
   exact this
theorem Zd {listed:Array Bool} (a:∀i o,ops[i]? =some o->listed.getD i true=true->∀j∈xR o,listed.getD j false=true):
  ∀(f j i:Nat) (o:Oper),ops[i]? =some o->(∀k∈xR o,listed.getD k false=true)->yH ops f j i=true->listed.getD j false=true
 | 0,j,i,o,l,g,h=>by
   simp only[yH,l,List.contains_eq_mem,decide_eq_true_eq] at h
   exact g j h
 | f+1,j,i,o,l,g,h=>by
   simp only[yH,l,List.contains_eq_mem,Bool.or_eq_true,decide_eq_true_eq,List.any_eq_true,Bool.and_eq_true] at h
   rcases h with h | ⟨k,n,_,h⟩
   ·exact g j h
   ·have d:=g k n
    cases c:ops[k]? with
    | none=>cases f<;>simp[yH,c] at h
    | some p=>
      have m:listed.getD k true=true:=by
       rw[Array.getD_eq_getD_getElem?] at d⊢
       cases e:listed[k]? with
       | none=>rfl
       | some b=>rw[e] at d;simpa using d
      exact Zd a f j k p c (a k p c m) h
theorem ym:∀(l:List Oper) (i:Nat),yw ops i l=true->∀(m:Nat) (o:Oper),l[m]? =some o->∀j∈xR o,j<i+m
 | [],_,_,m,o,a,_,_=>by simp at a
 | o::l,i,h,0,p,a,j,b=>by
   simp only[yw,Bool.and_eq_true,List.all_eq_true,decide_eq_true_eq] at h
   injection a with a
   subst a
   exact h.1 j b
 | o::l,i,h,m+1,p,a,j,b=>by
   simp only[yw,Bool.and_eq_true,List.all_eq_true,decide_eq_true_eq] at h
   have:=ym l (i+1) h.2 m p a j b
   omega
theorem vp {listed:Array Bool} {i:Nat} (h:i∈Region.ready .any ops listed):i<ops.size/\listed.getD i true=false/\∃o,ops[i]? =some o/\∀j∈xR o,listed.getD j false=true:=by
 simp only[Region.ready,List.mem_filter,List.mem_range,Bool.and_eq_true,Bool.not_eq_true'] at h
 obtain ⟨a,f,b⟩:=h
 refine ⟨a,f,ops[i],Array.getElem?_eq_getElem a,λj c=>?_⟩
 simp only[Array.getElem?_eq_getElem a,Option.map_some,Option.getD_some] at b
 rw[Array.all_eq_true_iff_forall_mem] at b
 simp only[xR,List.mem_map,List.mem_filter] at c
 obtain ⟨e,⟨d,g⟩,rfl⟩:=c
 have:=b e (by simpa using d)
 simpa [g] using this
theorem VC {listed:Array Bool} {i:Nat} {o:Oper} (d:i<ops.size) (b:listed.getD i true=false) (c:ops[i]? =some o) (g:∀j∈xR o,listed.getD j false=true):i∈Region.ready .any ops listed:=by
 simp only[Region.ready,List.mem_filter,List.mem_range,Bool.and_eq_true,Bool.not_eq_true']
 refine ⟨d,b,?_⟩
 simp only[c,Option.map_some,Option.getD_some]
 rw[Array.all_eq_true_iff_forall_mem]
 intro e a
 cases f:Region.binds .any e with
 | false=>simp
 | true=>
   have:=g e.on (by simp only[xR,List.mem_map,List.mem_filter];exact ⟨e,⟨by simpa using a,f⟩,rfl⟩)
   simpa using this
theorem J4 {φ:Nat->Ob} {i:Nat} {o:Oper} (D:ops[i]? =some o) (E:xq N o=true) {run:(Env->List Ob->Prop)->Env->List Ob->Prop} (k:jT ops o run K T h) {Q:Exit->Act->World->Prop} {w:World} {g:Gh} {a:Act} (r:Rel N B w g (fill φ h) a T)
  {next:Act->World->Prop} (l:run K T h->o.wp P a w next Q) (F:∀A h' w' C,K A h'->Aft N B φ w g h A h' C w'->next C w'):wpOp P ops Q i next a w:=by
 have f:K (zZ T o.dst (.v undef)) h->next (a.put o.dst undef) w:=λk=>
  F _ _ _ _ k ⟨g,.refl,kV r (Good.refl r.ok r.hB) (x:= .v undef) rfl E,Good.refl r.ok r.hB⟩
 unfold jT at k
 unfold wpOp
 simp only[D]
 split at k
 ·rename_i m
  rw[if_pos (by simp[Region.wanted,m])]
  exact .inl (l k)
 ·rename_i j p m
  split at k
  ·rename_i d n
   have q:yielded ops a.tmps j=match a.tmps[d]? with | some (.bool b)=>some b | _=>none:=by
    simp only[yielded,n,Option.bind_some]
    rfl
   have c:=r.t d
   rw[Array.getD_eq_getD_getElem?] at c
   split at k
   ·rename_i b z
    rw[z] at c
    have c:(a.tmps[d]?).getD undef= .bool b:=c
    have G:a.tmps[d]? =some (.bool b):=by
     cases e:a.tmps[d]? with
     | none=>rw[e] at c;cases c
     | some u=>rw[e] at c;exact congrArg some c
    rw[G] at q
    by_cases s:b=p
    ·rw[if_pos (by simp[Region.wanted,m,q,s])]
     exact .inl (l (k.1 s))
    ·rw[if_neg (by simp[Region.wanted,m,q,s])]
     exact f (k.2 s)
   ·rename_i vs z
    rw[z] at c
    have c:(a.tmps[d]?).getD undef= .tuple vs:=c
    have y:yielded ops a.tmps j=none:=by
     rw[q]
     cases e:a.tmps[d]? with
     | none=>rfl
     | some u=>rw[e] at c;have:u= .tuple vs:=c;subst this;rfl
    rw[if_neg (by simp[Region.wanted,m,y])]
    exact f k
   ·exact k.elim
  ·exact k.elim
theorem qza {φ:Nat->Ob} (D:Upto φ h.length) (z:Upto φ b) {q:Ent} {o:Oper} (A:ops[q.1]? =some o) (n:xq N o=true) (k:jU P ops b q o K T h) {Q:Exit->Act->World->Prop} {w:World} {g:Gh} {a:Act} (r:Rel N B w g (fill φ h) a T)
  {next:Act->World->Prop} (p:∀c h' w' l,K c h'->(∃g',(∀j,(cls o.op=3->j≠b+q.2.1)->h[j]? =some .res->h'[j]? =some .res)/\Rel N B w' g' (fill φ h') l c/\Good B.b w g (fill φ h) w' g' (fill φ h'))->next l w'):wpOp P ops Q q.1 next a w:=by
 by_cases x:cls o.op=3
 ·rw[ka x] at k
  refine J4 A n (K:=λc h'=>K c h') k r (λk=>?_) λc h' w' l k' ⟨g',d,f,i⟩=>p _ _ _ _ k' ⟨g',λj _=>d j,f,i⟩
  unfold ZZ at k
  split at k
  ·rename_i ob mk E
   obtain ⟨dst,op,type,pos,after,guard⟩:=o
   obtain ⟨v,w',G,m⟩:=Vg r.ok r.hB r.t E dst type pos after guard
   have y:=m.live
   have s:(fill φ h)[b+q.2.1]? =some .res:=by
    rw[kT,k.1]
    simp only[Option.map_some,JR]
    rw[if_pos (show (Ob.res).isRes=true from rfl),z _ (by omega)]
   obtain ⟨g',u,C⟩:=m.at r.ok r.hB s
   rw[<-qn y] at u C
   unfold Oper.wp
   rw[G]
   refine p _ _ _ _ k.2 ⟨g',λj F H=>?_,kV r u C n,u⟩
   rw[List.getElem?_set_ne (λe=>F x e.symm)]
   exact H
  ·exact k.elim
 ·rw[kX x] at k
  exact J4 A n (jF k λ_ _ k=>k.2) r (λk=>Jn D n k r λc h' w' l k' ⟨g',d,f,i⟩=>p _ _ _ _ k' ⟨g',λj _=>d j,f,i⟩) λc h' w' l k' ⟨g',d,f,i⟩=>p _ _ _ _ k' ⟨g',λj _=>d j,f,i⟩
theorem yx:∀(l:List Ent),J1 ops l=true->l.Pairwise λx y=>vJ ops x y=true
 | [],_=> .nil
 | x::r,h=>by
   simp only[J1,Bool.and_eq_true,List.all_eq_true] at h
   exact .cons h.1 (yx r h.2)
theorem vq {p q:Ent} (h:vJ ops p q=true):∃x y,ops[p.1]? =some x/\ops[q.1]? =some y/\(yH ops 8 p.1 q.1=true∨Zc ops p q x y=true)/\yH ops 8 q.1 p.1=false/\q.1∉p.2.2/\(cls x.op=3->cls y.op=3->p.2.1≠q.2.1):=by
 unfold vJ at h
 split at h
 ·rename_i x y b c
  simp only[Bool.and_eq_true,Bool.or_eq_true,Bool.not_eq_true',bne_iff_ne,ne_eq,List.contains_eq_mem,decide_eq_false_iff_not] at h
  refine ⟨x,y,b,c,h.1.1.1,h.1.1.2,h.1.2,λd a=>?_⟩
  rcases h.2 with (h | h) | h
  ·exact absurd d h
  ·exact absurd a h
  ·exact h
 ·cases h
structure Rest (ops:Array Oper) (listed:Array Bool) (L:List Ent):Prop where
 size:listed.size=ops.size
 nodup:(L.map (·.1)).Nodup
 iff:∀i,i<ops.size->(listed.getD i true=false↔i∈L.map (·.1))
 pair:L.Pairwise λx y=>vJ ops x y=true
 ent:∀q∈L,∃k,kNa ops k q=true
 down:∀i o,ops[i]? =some o->listed.getD i true=true->∀j∈xR o,listed.getD j false=true
theorem Z2 {listed:Array Bool} {i:Nat} (a:i<listed.size) (m:Nat) (d:Bool):(listed.setIfInBounds i true).getD m d=if m=i then true else listed.getD m d:=by
 simp only[Array.getD_eq_getD_getElem?]
 split
 ·rename_i e;subst e;simp[Array.getElem?_setIfInBounds,a]
 ·rename_i e;rw[Array.getElem?_setIfInBounds_ne (λh=>e h.symm)]
theorem wH {k:Nat} {q:Ent} (h:kNa ops k q=true):∃o,ops[q.1]? =some o/\(cls o.op≠2->q.2.2=[])/\q.1∉q.2.2/\(cls o.op=3->q.2.1<k)/\∀l∈q.2.2,yl ops l=true:=by
 unfold kNa at h
 split at h
 ·rename_i o d
  simp only[Bool.and_eq_true,Bool.or_eq_true,beq_iff_eq,bne_iff_ne,ne_eq,decide_eq_true_eq,Bool.not_eq_true',List.contains_eq_mem,decide_eq_false_iff_not,List.all_eq_true,List.isEmpty_iff] at h
  obtain ⟨⟨⟨b,a⟩,f⟩,e⟩:=h
  refine ⟨o,d,λc=>?_,f,λc=>?_,e⟩
  ·rcases b with b | b
   ·exact absurd b c
   ·exact b
  ·rcases a with a | a
   ·exact absurd c a
   ·exact a
 ·cases h
theorem VD {l p:Nat} (h:yl ops l=true) (a:p<ops.size):p=l∨yH ops 8 p l=true∨xZ ops l p=true:=by
 simp only[yl,Bool.and_eq_true,List.all_eq_true,List.mem_range,Bool.or_eq_true,beq_iff_eq] at h
 rcases h.2 p a with (h | h) | h
 ·exact .inl h
 ·exact .inr (.inl h)
 ·exact .inr (.inr h)
theorem xqa {l:Nat} {x:Oper} (h:yl ops l=true) (b:ops[l]? =some x):∀d,x.dst=some d->xr ops x d=false:=λd a=>by
 simp only[yl,Bool.and_eq_true,b] at h
 have:=h.1.2
 rw[a] at this
 simpa using this
theorem qAa {listed:Array Bool} {L:List Ent} (R:Rest ops listed L) {i:Ent} {o:Oper} {post:List Ent} (D:ops[i.1]? =some o) (U:∀j∈xR o,listed.getD j false=true):∀(c pre:List Ent),L=c++pre++i::post->yRa ops i o pre
 | _,[],_=>trivial
 | c,j::pre,e=>by
   have E:j∈L:=by rw[e];simp
   have K:i∈L:=by rw[e];simp
   have b:∀q∈L,q.1<ops.size:=λq r=>by
    obtain ⟨k,X⟩:=R.ent q r
    obtain ⟨o,S,_⟩:=wH X
    rcases Nat.lt_or_ge q.1 ops.size with h | h
    ·exact h
    ·rw[Array.getElem?_eq_none h] at S;cases S
   have C:∀q∈L,listed.getD q.1 false=false:=λq r=>by
    have:=(R.iff q.1 (b q r)).2 (List.mem_map.2 ⟨q,r,rfl⟩)
    rw[Array.getD_eq_getD_getElem?] at this⊢
    rw[Array.getElem?_eq_getElem (by rw[R.size];exact b q r)] at this⊢
    simpa using this
   have m:∀q∈L,∀l,listed.getD l true=true->l<ops.size->yH ops 8 q.1 l=false:=λq r l f H=>by
    rw[Bool.eq_false_iff]
    intro w
    have A:ops[l]? =some ops[l]:=Array.getElem?_eq_getElem H
    have:=Zd R.down 8 q.1 l _ A (R.down l _ A f) w
    rw[C q r] at this
    cases this
   obtain ⟨kj,F⟩:=R.ent j E
   obtain ⟨x,J,x1,Z,_,V⟩:=wH F
   obtain ⟨ki,O⟩:=R.ent i K
   obtain ⟨o',u,i1,i2,_,T⟩:=wH O
   rw[D] at u
   injection u with u
   subst u
   have g:=R.pair
   rw[e] at g
   have I:vJ ops j i=true:=(List.pairwise_append.1 g).2.2 j (by simp) i (by simp)
   obtain ⟨x',y',p1,p2,z,p4,Y,p6⟩:=vq I
   rw[J] at p1;injection p1 with p1;subst p1
   rw[D] at p2;injection p2 with p2;subst p2
   have M:yH ops 8 j.1 i.1=false:=by
    rw[Bool.eq_false_iff]
    intro w
    have:=Zd R.down 8 j.1 i.1 o D U w
    rw[C j E] at this
    cases this
   have Q:Zc ops j i x o=true:=by
    rcases z with z | z
    ·rw[M] at z;cases z
    ·exact z
   have before:∀l∈c,∀q,q=i∨q∈j::pre->vJ ops l q=true:=λl f q r=>by
    rw[List.append_assoc] at g
    refine (List.pairwise_append.1 g).2.2 l f q ?_
    rcases r with rfl | r
    ·simp
    ·simp only[List.mem_append];exact .inl r
   have t:∀l,yl ops l=true->l<ops.size:=λl f=>by
    simp only[yl,Bool.and_eq_true] at f
    rcases Nat.lt_or_ge l ops.size with h | h
    ·exact h
    ·have:=f.1;rw[Array.getElem?_eq_none h] at this;simp at this
   refine ⟨⟨x,J,Q,x1,p6,λl f=>?_,λW=>xqa (T _ W) J,?_,λl f B P=>?_⟩,qAa (post:=post) R D U (c++[j]) pre (by rw[e];simp)⟩
   ·have d:=V l f
    rcases VD d (b i K) with h | h | h
    ·exact absurd (h▸f) Y
    ·exfalso
     by_cases n:listed.getD l true=true
     ·rw[m i K l n (t l d)] at h;cases h
     ·have v:=(R.iff l (t l d)).1 (by simpa using n)
      obtain ⟨s,a,rfl⟩:=List.mem_map.1 v
      rw[e] at a
      have p:vJ ops j s=true∨s=j∨s∈c:=by
       rcases List.mem_append.1 a with a | a
       ·rcases List.mem_append.1 a with a | a
        ·exact .inr (.inr a)
        ·rcases List.mem_cons.1 a with rfl | a
         ·exact .inr (.inl rfl)
         ·refine .inl ?_
          have:=(List.pairwise_append.1 g).1
          have:=(List.pairwise_append.1 this).2.1
          exact (List.pairwise_cons.1 this).1 s a
       ·exact .inl ((List.pairwise_append.1 g).2.2 j (by simp) s a)
      rcases p with p | rfl | p
      ·obtain ⟨_,_,_,_,_,_,N,_⟩:=vq p
       exact N f
      ·exact Z f
      ·obtain ⟨_,_,_,_,_,G,_,_⟩:=vq (before s p i (.inl rfl))
       rw[G] at h;cases h
    ·exact h
   ·have y:=R.nodup
    rw[e] at y
    simp only[List.map_append,List.map_cons,List.append_assoc] at y
    have:=(List.nodup_append.1 y).2.1
    have:=(List.nodup_append.1 this).1
    exact (List.nodup_cons.1 this).1
   ·have d:=T l f
    rcases VD d (b j E) with h | h | h
    ·exact absurd h.symm B
    ·exfalso
     by_cases n:listed.getD l true=true
     ·rw[m j E l n (t l d)] at h;cases h
     ·have v:=(R.iff l (t l d)).1 (by simpa using n)
      obtain ⟨s,a,rfl⟩:=List.mem_map.1 v
      rw[e] at a
      rcases List.mem_append.1 a with a | a
      ·rcases List.mem_append.1 a with a | a
       ·obtain ⟨_,_,_,_,_,G,_,_⟩:=vq (before s a j (.inr (by simp)))
        rw[G] at h;cases h
       ·rcases List.mem_cons.1 a with rfl | a
        ·exact B rfl
        ·exact P (List.mem_map.2 ⟨s,a,rfl⟩)
      ·rcases List.mem_cons.1 a with rfl | a
       ·exact i2 f
       ·have:=(List.pairwise_append.1 g).2.1
        obtain ⟨_,_,_,_,_,_,N,_⟩:=vq ((List.pairwise_cons.1 this).1 s a)
        exact N f
    ·exact h
theorem Yq {φ:Nat->Ob} (β:Upto φ b) (O:yw ops 0 ops.toList=true) (G:ops.toList.all (xq N)=true) {Q:Exit->Act->World->Prop}:
  ∀ (c:Nat) (listed:Array Bool) (L:List Ent),L.length<=c->Rest ops listed L->∀ {T:Env} {h:List Ob},b<=h.length->(∀q∈L,∀o,ops[q.1]? =some o->cls o.op=3->h[b+q.2.1]? =some .res)->
    wpE P ops b K L T h->∀ {w:World} {g:Gh} {a:Act},Rel N B w g (fill φ h) a T->(∀T' h' w' g' a',K T' h'->(∀j,j<b->h[j]? =some .res->h'[j]? =some .res)->Rel N B w' g' (fill φ h') a' T'->Good B.b w g (fill φ h) w' g' (fill φ h')->Q .normal a' w')->wpAny P .any ops Q c listed a w:=by
 have V:∀(listed:Array Bool) (L:List Ent),Rest ops listed L->∀q∈L,q.1<ops.size:=λlisted L R q hq=>by
  obtain ⟨k,hk⟩:=R.ent q hq
  obtain ⟨o,M,_⟩:=wH hk
  rcases Nat.lt_or_ge q.1 ops.size with h | h
  ·exact h
  ·rw[Array.getElem?_eq_none h] at M;cases M
 have f:∀(listed:Array Bool) (L:List Ent),Rest ops listed L->Region.ready .any ops listed=[]->L=[]:=by
  intro listed L R hr
  by_cases S:L=[]
  ·exact S
  exfalso
  have hex:∃n,n∈L.map (·.1):=List.exists_mem_of_ne_nil _ (by simpa using S)
  obtain ⟨n,hn,Y⟩:=least hex
  obtain ⟨q,hq,rfl⟩:=List.mem_map.1 hn
  have s:=V listed L R q hq
  have:q.1∈Region.ready .any ops listed:=VC s ((R.iff q.1 s).2 hn) (Array.getElem?_eq_getElem s) λj X=>by
   have ν:=ym ops.toList 0 O q.1 ops[q.1] (by simp[s]) j X
   rw[Nat.zero_add] at ν
   have τ:j<ops.size:=by omega
   have ξ:¬ j∈L.map (·.1):=λh=>by have:=Y j h;omega
   have:¬ listed.getD j true=false:=λh=>ξ ((R.iff j τ).1 h)
   rw[Array.getD_eq_getD_getElem?] at this⊢
   rw[Array.getElem?_eq_getElem (by rw[R.size];omega)] at this⊢
   simpa using this
  rw[hr] at this
  cases this
 intro c
 induction c with
 | zero=>
   intro listed L H R T h Z u k w g a r hQ
   have:L=[]:=List.eq_nil_of_length_eq_zero (by omega)
   subst this
   refine ⟨?_,hQ _ _ _ g _ k (λ_ _ h=>h) r (Good.refl r.ok r.hB)⟩
   rw[List.eq_nil_iff_forall_not_mem]
   intro i hi
   obtain ⟨M,h2,_⟩:=vp hi
   have:=(R.iff i M).1 h2
   cases this
 | succ c ih=>
   intro listed L H R T h Z u k w g a r hQ
   refine ⟨λhr=>?_,λi hi=>?_⟩
   ·have:=f listed L R hr
    subst this
    exact hQ _ _ _ g _ k (λ_ _ h=>h) r (Good.refl r.ok r.hB)
   ·obtain ⟨M,h2,o,A,h3⟩:=vp hi
    have η:=(R.iff i M).1 h2
    obtain ⟨q,U,rfl⟩:=List.mem_map.1 η
    obtain ⟨pre,post,rfl⟩:=List.append_of_mem U
    obtain ⟨kq,κ⟩:=R.ent q U
    obtain ⟨o',E,qe,_,_,_⟩:=wH κ
    rw[A] at E
    injection E with E
    subst E
    have ρ:=qAa (post:=post) R A h3 [] pre (by simp)
    have I:=Yp A qe post pre ρ (λhc=>u q U o A hc) k
    have hu:Upto φ h.length:=β.mono Z
    have α:((pre++post).map (·.1)).Nodup/\q.1∉(pre++post).map (·.1):=by
     have:=R.nodup
     simp only[List.map_append,List.map_cons] at this⊢
     rw[List.nodup_append] at this
     obtain ⟨n1,n2,n3⟩:=this
     rw[List.nodup_cons] at n2
     refine ⟨?_,?_⟩
     ·rw[List.nodup_append]
      exact ⟨n1,n2.2,λa ha b Z=>n3 a ha b (by simp[Z])⟩
     ·intro t
      rcases List.mem_append.1 t with t | t
      ·exact n3 _ t q.1 (by simp) rfl
      ·exact n2.1 t
    have v:(pre++post).Sublist (pre++q::post):=List.Sublist.append_left (List.sublist_cons_self q post) pre
    have F:=λm d=>Z2 (listed:=listed) (i:=q.1) (by rw[R.size];exact M) m d
    have R':Rest ops (listed.setIfInBounds q.1 true) (pre++post):=by
     refine ⟨by simp[R.size],α.1,λm t=>?_,R.pair.sublist v,λp l=>R.ent p (v.subset l),λm p l t j X=>?_⟩
     ·rw[F]
      by_cases e:m=q.1
      ·subst e;simp only[if_true];exact ⟨λh=>(by cases h),λh=>absurd h α.2⟩
      ·rw[if_neg e,R.iff m t]
       simp[e]
     ·rw[F] at t⊢
      split
      ·rfl
      ·by_cases e:m=q.1
       ·subst e
        rw[A] at l
        injection l with l
        subst l
        exact h3 j X
       ·rw[if_neg e] at t
        exact R.down m p l t j X
    refine qza (q:=less q pre) hu β A ?_ I r λT' h' w' a' k' ⟨g',q1,q2,q3⟩=>?_
    ·rw[List.all_eq_true] at G
     exact G o (by simpa using Array.mem_of_getElem? A)
    ·refine ih _ (pre++post) (by simp at H ⊢;omega) R' (Nat.le_trans Z (wE q3)) (λp l o2 J W=>?_) k' q2 λT2 h2 w2 g2 a2 k2 rr r2 z2=>hQ _ _ _ g2 _ k2 (λj X hr=>rr j X (q1 j (λ_=>by simp only[less];omega) hr)) r2 (q3.trans z2)
     refine q1 _ (λhc=>?_) (u p (v.subset l) o2 J W)
     have z:vJ ops p q=true∨vJ ops q p=true:=by
      rcases List.mem_append.1 l with l | l
      ·exact .inl ((List.pairwise_append.1 R.pair).2.2 p l q (by simp))
      ·exact .inr ((List.pairwise_cons.1 (List.pairwise_append.1 R.pair).2.1).1 p l)
     have S:p.2.1≠q.2.1:=by
      rcases z with z | z
      ·obtain ⟨x,y,C,D,_,_,_,e3⟩:=vq z
       rw[J] at C;injection C with C;subst C
       rw[A] at D;injection D with D;subst D
       exact e3 W hc
      ·obtain ⟨x,y,C,D,_,_,_,e3⟩:=vq z
       rw[A] at C;injection C with C;subst C
       rw[J] at D;injection D with D;subst D
       exact λe=>e3 hc W e.symm
     simp only[less]
     omega
theorem ySa {id:Nat} {Q:jv} (C:P.follows .mixedOrders=true) (k:Nat) (b:List Ent) (M:ops.toList.all (xq N)=true) (e:Vy ops k b=true) (kk:wpE P ops h.length (Q .normal) b T (h++List.replicate k .res)):AWp P N B (.region id ops true) Q T h:=λφ y w g a r=>by
 simp only[Vy,Bool.and_eq_true,List.all_eq_true,decide_eq_true_eq,List.contains_eq_mem,List.mem_range] at e
 obtain ⟨⟨⟨⟨⟨E,G⟩,z⟩,L⟩,O⟩,p⟩:=e
 have j:=Good.drew (g:=g) r.ok r.hB
 have x:=XF j.size k j.ok
 have m:=j.trans x
 have u:fill φ (h++List.replicate k .res)=fill φ h++List.replicate k .res:=qR y
 rw[<-u] at m
 have A:Rel N B w.drew g (fill φ (h++List.replicate k .res)) a T:=⟨m.ok,m.size,λi=>AR.le m.le _ _ (r.t i),r.d,r.n⟩
 refine wp_region_any C ?_
 have R:Rest ops (Array.replicate ops.size false) b:=by
  refine ⟨by simp,O,λi f=>?_,yx b E,λq v=>⟨k,z q v⟩,λi o s H=>?_⟩
  ·simp[Array.getD_eq_getD_getElem?,f]
   have:=L i f
   simpa using this
  ·have f:i<ops.size:=by
    rcases Nat.lt_or_ge i ops.size with h | h
    ·exact h
    ·rw[Array.getElem?_eq_none h] at s;cases s
   simp[Array.getD_eq_getD_getElem?,f] at H
 refine Yq (K:=Q .normal) y G M ops.size _ b p R (by simp) (λq v o s J=>?_) kk A λD h' w' g' U k' S I q=>⟨D,h',k',g',λi f=>?_,I,m.trans q⟩
 ·obtain ⟨o',c,_,_,F,_⟩:=wH (z q v)
  rw[s] at c
  injection c with c
  subst c
  have:=F J
  rw[List.getElem?_append_right (by omega),Nat.add_sub_cancel_left,List.getElem?_replicate,if_pos this]
 ·have l:=(List.getElem?_eq_some_iff.1 f).1
  exact S i l (by rw[List.getElem?_append_left l];exact f)
end
end Go.Proofs.YtfmldcilgbbimaaGreat.Ax
