import Derived.Test.YtjeehgkolepogaaGreatK08
set_option linter.all false
namespace Go.Proofs.YtjeehgkolepogaaGreat.Ax
open Go Go.RowKit
section
variable {P:Program} {N:Nat} {B:Bs} {ops:Array Oper} {T:Env} {h:List Ob} {K K':Env->List Ob->Prop} {b:Nat}
def jfa(ops:Array Oper)(i:Ent)(o:Oper):List Ent->Prop
 | []=>True
 | j ::r=>(∃x,ops[j.1]? =some x/\ym ops j i x o=true/\(cls x.op≠2->j.2.2=[])/\(cls x.op=3->cls o.op=3->j.2.1≠i.2.1)/\(∀l∈j.2.2,xV ops l i.1=true)/\
     (j.1∈i.2.2->∀d,x.dst=some d->xz ops x d=false)/\j.1∉r.map (·.1)/\(∀l∈i.2.2,l≠j.1->l∉r.map (·.1)->xV ops l j.1=true))/\jfa ops i o r
def less(i:Ent)(pre:List Ent):Ent:=(i.1,i.2.1,i.2.2.filter λl=> !(pre.map (·.1)).contains l)
def VE{j i:Ent}{x o:Oper}{r:List Ent}(b:ym ops j i x o=true)(c:j.1∉r.map (·.1)):ym ops j (less i r) x o=true:=by
 simp only[ym,zi,Bool.or_eq_true,beq_iff_eq,bne_iff_ne,ne_eq,decide_eq_true_eq] at b⊢;refine⟨b.1,?_⟩;rcases b.2 with((((h|h)|h)|⟨h,a⟩)|⟨h,a⟩)|⟨h,a⟩
 ·exact .inl (.inl (.inl (.inl (.inl h))))
 ·exact .inl (.inl (.inl (.inl (.inr h))))
 ·exact .inl (.inl (.inl (.inr h)))
 ·refine .inl (.inl (.inr ⟨h,?_⟩));have a:j.1∈i.2.2:=by simpa using a
  simp only[less,List.contains_eq_mem,decide_eq_true_eq,qD,a,true_and];simpa using c
 ·refine .inl (.inr ⟨h,?_⟩);have:i.2.2=[]:=by simpa using a
  simp[less,this]
 ·refine .inr ⟨h,?_⟩;have:i.2.2=[]:=by simpa using a
  simp[less,this]
def wpE_front{i:Ent}{o:Oper}(r:ops[i.1]? =some o)(d:cls o.op≠2->i.2.2=[])(post:List Ent):∀(pre:List Ent),jfa ops i o pre->∀ {T:Env} {h:List Ob},(cls o.op=3->h[b+i.2.1]? =some .res)->
    wpE P ops b K (pre++i::post) T h->xm P ops b (less i pre) o (wpE P ops b K (pre++post)) T h
 | [],_,T,h,_,k=>by
   simp only[List.nil_append,wpE,r] at k
   have:less i []=i:=by
    have:i.2.2.filter (λl=> !(([]:List Ent).map (·.1)).contains l)=i.2.2:=List.filter_eq_self.2 zh;simp only[less,this]
   rw[this];exact k
 | j::pre,⟨⟨x,v,D,w,s,f5,f6,f7,z⟩,E⟩,T,h,t,k=>by
   simp only[List.cons_append,wpE,v] at k⊢
   have k2:xm P ops b j x (xm P ops b (less i pre) o (wpE P ops b K (pre++post))) T h:=WR k λF h' f k'=>by
    refine wpE_front r d post pre E (λm=>f _ (λC=>?_) (t m)) k';have:=s C m;omega
   have c:∀l,l∈(less i (j::pre)).2.2↔l∈i.2.2/\l≠j.1/\l∉pre.map (·.1):=λl=>by
    simp only[less,qD,List.map_cons,List.contains_eq_mem,Bool.not_eq_true',decide_eq_false_iff_not,zK,not_or]
   have a:∀l,l∈(less i pre).2.2↔l∈i.2.2/\l∉pre.map (·.1):=λl=>by
    simp only[less,qD,List.contains_eq_mem,Bool.not_eq_true',decide_eq_false_iff_not]
   have:=swapE (q:=less i pre) (l2:=(less i (j::pre)).2.2) (y:=o) v (VE D f7) w (λm=>by simp[less,d m]) r
    (λl n=>by
     obtain⟨g,p,u⟩:=(c l).1 n;exact⟨(a l).2 ⟨g,u⟩,z l g p u⟩) f5 (λl n B=>by
     obtain⟨g,p⟩:=(a l).1 n;by_cases e:l=j.1
     ·exact e
     ·exact absurd ((c l).2 ⟨g,e,p⟩) B) t s (λA=>f6 ((a _).1 A).1) k2
   exact this
def reach_listed{listed:Array Bool}(a:∀i o,ops[i]? =some o->listed.getD i true=true->∀j∈vh o,listed.getD j false=true):
    ∀(f j i:Nat) (o:Oper),ops[i]? =some o->(∀k∈vh o,listed.getD k false=true)->yb ops f j i=true->listed.getD j false=true
 | 0,j,i,o,m,g,h=>by
   simp only[yb,m,List.contains_eq_mem,decide_eq_true_eq] at h;exact g j h
 | f+1,j,i,o,m,g,h=>by
   simp only[yb,m,List.contains_eq_mem,Bool.or_eq_true,decide_eq_true_eq,List.any_eq_true,zi] at h;rcases h with h|⟨k,n,_,h⟩
   ·exact g j h
   ·have d:=g k n;cases c:ops[k]? with
    | none=>cases f<;>simp[yb,c] at h
    | some p=>
      have l:listed.getD k true=true:=by
       rw[qf] at d⊢;cases e:listed[k]? with
       | none=>rfl
       | some b=>rw[e] at d;simpa using d
      exact reach_listed a f j k p c (a k p c l) h
def QR:∀(l:List Oper) (i:Nat),Qp ops i l=true->∀(m:Nat) (o:Oper),l[m]? =some o->∀j∈vh o,j<i+m
 | [],_,_,m,o,a,_,_=>by simp at a
 | o::l,i,h,0,p,a,j,b=>by
   simp only[Qp,zi,zY,decide_eq_true_eq] at h;injection a with a;subst a;exact h.1 j b
 | o::l,i,h,m+1,p,a,j,b=>by
   simp only[Qp,zi,zY,decide_eq_true_eq] at h;have:=QR l (i+1) h.2 m p a j b;omega
def JI{listed:Array Bool}{i:Nat}(h:i∈Region.ready .any ops listed):i<ops.size/\listed.getD i true=false/\∃o,ops[i]? =some o/\∀j∈vh o,listed.getD j false=true:=by
 simp only[Region.ready,qD,jb,zi,Bool.not_eq_true'] at h;obtain⟨a,f,b⟩:=h;refine⟨a,f,ops[i],qM a,λj c=>?_⟩;simp only[qM a,Option.map_some,Option.getD_some] at b;rw[Array.all_eq_true_iff_forall_mem] at b;simp only[vh,zQ,qD] at c;obtain⟨e,⟨g,d⟩,rfl⟩:=c;have:=b e (by simpa using g);simpa [d] using this
def jga{listed:Array Bool}{i:Nat}{o:Oper}(a:i<ops.size)(f:listed.getD i true=false)(b:ops[i]? =some o)(d:∀j∈vh o,listed.getD j false=true):i∈Region.ready .any ops listed:=by
 simp only[Region.ready,qD,jb,zi,Bool.not_eq_true'];refine⟨a,f,?_⟩;simp only[b,Option.map_some,Option.getD_some];rw[Array.all_eq_true_iff_forall_mem];intro e g;cases c:Region.binds .any e with
 | false=>simp
 | true=>
   have:=d e.on (by simp only[vh,zQ,qD];exact⟨e,⟨by simpa using g,c⟩,rfl⟩);simpa using this
def guardG_sound{φ:Nat->Ob}{i:Nat}{o:Oper}(E:ops[i]? =some o)(D:wF N o=true){run:(Env->List Ob->Prop)->Env->List Ob->Prop}(k:xl ops o run K T h){Q:Exit->Act->World->Prop}{w:World}{g:Gh}{a:Act}(r:Rel N B w g (fill φ h) a T)
    {next:Act->World->Prop} (l:run K T h->o.wp P a w next Q) (F:∀A h' w' a',K A h'->Aft N B φ w g h A h' a' w'->next a' w'):wpOp P ops Q i next a w:=by
 have f:K (qG T o.dst (.v undef)) h->next (a.put o.dst undef) w:=λk=>
  F _ _ _ _ k ⟨g,.refl,yl r (Good.refl r.ok r.hB) (x:= .v undef) rfl D,Good.refl r.ok r.hB⟩
 unfold xl at k;unfold wpOp;simp only[E];split at k
 ·rename_i n;rw[if_pos (by simp[Region.wanted,n])];exact .inl (l k)
 ·rename_i j p n;split at k
  ·rename_i d m
   have s:yielded ops a.tmps j=match a.tmps[d]? with|some (.bool b)=>some b|_=>none:=by
    simp only[yielded,m,Option.bind_some];rfl
   have c:=r.t d;rw[qf] at c;split at k
   ·rename_i b z;rw[z] at c;have c:(a.tmps[d]?).getD undef= .bool b:=c
    have C:a.tmps[d]? =some (.bool b):=by
     cases e:a.tmps[d]? with
     | none=>rw[e] at c;cases c
     | some u=>rw[e] at c;exact congrArg some c
    rw[C] at s;by_cases q:b=p
    ·rw[if_pos (by simp[Region.wanted,n,s,q])];exact .inl (l (k.1 q))
    ·rw[if_neg (by simp[Region.wanted,n,s,q])];exact f (k.2 q)
   ·rename_i vs z;rw[z] at c;have c:(a.tmps[d]?).getD undef= .tuple vs:=c
    have y:yielded ops a.tmps j=none:=by
     rw[s];cases e:a.tmps[d]? with
     | none=>rfl
     | some u=>rw[e] at c;have:u= .tuple vs:=c;subst this;rfl
    rw[if_neg (by simp[Region.wanted,n,y])];exact f k
   ·exact k.elim
  ·exact k.elim
def stepE_sound{φ:Nat->Ob}(G:Upto φ h.length)(x:Upto φ b){q:Ent}{o:Oper}(A:ops[q.1]? =some o)(l:wF N o=true)(k:xm P ops b q o K T h){Q:Exit->Act->World->Prop}{w:World}{g:Gh}{a:Act}(r:Rel N B w g (fill φ h) a T)
    {next:Act->World->Prop} (n:∀c h' w' a',K c h'->(∃g',(∀j,(cls o.op=3->j≠b+q.2.1)->h[j]? =some .res->h'[j]? =some .res)/\Rel N B w' g' (fill φ h') a' c/\Good B.b w g (fill φ h) w' g' (fill φ h'))->next a' w'):wpOp P ops Q q.1 next a w:=by
 by_cases s:cls o.op=3
 ·rw[xW s] at k;refine guardG_sound A l (K:=λc h'=>K c h') k r (λk=>?_) λc h' w' a' k' ⟨g',d,i,f⟩=>n _ _ _ _ k' ⟨g',λj _=>d j,i,f⟩;unfold yN at k;split at k
  ·rename_i ob mk D;obtain⟨dst,op,type,pos,after,guard⟩:=o;obtain⟨v,w',E,m⟩:=allocA_run r.ok r.hB r.t D dst type pos after guard;have u:=m.live
   have p:(fill φ h)[b+q.2.1]? =some .res:=by
    rw[kL,k.1];simp only[Option.map_some,ZZ];rw[if_pos (show(Ob.res).isRes=true from rfl),x _ zb]
   obtain⟨g',y,z⟩:=m.at r.ok r.hB p;rw[<-ko u] at y z;unfold Oper.wp;rw[E];refine n _ _ _ _ k.2 ⟨g',λj F C=>?_,yl r y z l,y⟩;rw[zf (λe=>F s e.symm)];exact C
  ·exact k.elim
 ·rw[kO s] at k;exact guardG_sound A l (j8 k λ_ _ k=>k.2) r (λk=>runA_sound G l k r λc h' w' a' k' ⟨g',d,i,f⟩=>n _ _ _ _ k' ⟨g',λj _=>d j,i,f⟩) λc h' w' a' k' ⟨g',d,i,f⟩=>n _ _ _ _ k' ⟨g',λj _=>d j,i,f⟩
def Zv:∀(l:List Ent),Z5 ops l=true->l.Pairwise λx y=>vz ops x y=true
 | [],_=> .nil
 | x::r,h=>by
   simp only[Z5,zi,zY] at h;exact .cons h.1 (Zv r h.2)
def vj{p q:Ent}(h:vz ops p q=true):∃x y,ops[p.1]? =some x/\ops[q.1]? =some y/\(yb ops 8 p.1 q.1=true∨ym ops p q x y=true)/\yb ops 8 q.1 p.1=false/\q.1∉p.2.2/\(cls x.op=3->cls y.op=3->p.2.1≠q.2.1):=by
 unfold vz at h;split at h
 ·rename_i x y a d;simp only[zi,Bool.or_eq_true,Bool.not_eq_true',bne_iff_ne,ne_eq,List.contains_eq_mem,decide_eq_false_iff_not] at h;refine⟨x,y,a,d,h.1.1.1,h.1.1.2,h.1.2,λc b=>?_⟩;rcases h.2 with(h|h)|h
  ·exact absurd c h
  ·exact absurd b h
  ·exact h
 ·cases h
structure Rest (ops:Array Oper) (listed:Array Bool) (L:List Ent):Prop where
 size:listed.size=ops.size
 nodup:(L.map (·.1)).Nodup
 iff:∀i,i<ops.size->(listed.getD i true=false↔i∈L.map (·.1))
 pair:L.Pairwise λx y=>vz ops x y=true
 ent:∀q∈L,∃k,YT ops k q=true
 down:∀i o,ops[i]? =some o->listed.getD i true=true->∀j∈vh o,listed.getD j false=true
def jha{listed:Array Bool}{i:Nat}(hi:i<listed.size)(m:Nat)(d:Bool):(listed.setIfInBounds i true).getD m d=if m=i then true else listed.getD m d:=by
 simp only[qf];split
 ·rename_i e;subst e;simp[Array.getElem?_setIfInBounds,hi]
 ·rename_i e;rw[Array.getElem?_setIfInBounds_ne (λh=>e h.symm)]
def ye{k:Nat}{q:Ent}(h:YT ops k q=true):∃o,ops[q.1]? =some o/\(cls o.op≠2->q.2.2=[])/\q.1∉q.2.2/\(cls o.op=3->q.2.1<k)/\∀l∈q.2.2,wG ops l=true:=by
 unfold YT at h;split at h
 ·rename_i o d;simp only[zi,Bool.or_eq_true,beq_iff_eq,bne_iff_ne,ne_eq,decide_eq_true_eq,Bool.not_eq_true',List.contains_eq_mem,decide_eq_false_iff_not,zY,List.isEmpty_iff] at h;obtain⟨⟨⟨a,b⟩,e⟩,f⟩:=h;refine⟨o,d,λc=>?_,e,λc=>?_,f⟩
  ·rcases a with a|a
   ·exact absurd a c
   ·exact a
  ·rcases b with b|b
   ·exact absurd c b
   ·exact b
 ·cases h
def JJ{l p:Nat}(h:wG ops l=true)(a:p<ops.size):p=l∨yb ops 8 p l=true∨xV ops l p=true:=by
 simp only[wG,zi,zY,jb,Bool.or_eq_true,beq_iff_eq] at h;rcases h.2 p a with(h|h)|h
 ·exact .inl h
 ·exact .inr (.inl h)
 ·exact .inr (.inr h)
def WW{l:Nat}{x:Oper}(h:wG ops l=true)(b:ops[l]? =some x):∀d,x.dst=some d->xz ops x d=false:=λd a=>by
 simp only[wG,zi,b] at h;have:=h.1.2;rw[a] at this;simpa using this
def VF{listed:Array Bool}{L:List Ent}(R:Rest ops listed L){i:Ent}{o:Oper}{post:List Ent}(E:ops[i.1]? =some o)(Q:∀j∈vh o,listed.getD j false=true):∀(c pre:List Ent),L=c++pre++i::post->jfa ops i o pre
 | _,[],_=>trivial
 | c,j::pre,e=>by
   have D:j∈L:=(by rw[e];simp);have hi:i∈L:=by rw[e];simp
   have b:∀q∈L,q.1<ops.size:=λq p=>by
    obtain⟨k,X⟩:=R.ent q p;obtain⟨o,S,_⟩:=ye X;rcases Nat.lt_or_ge q.1 ops.size with h|h
    ·exact h
    ·rw[Array.getElem?_eq_none h] at S;cases S
   have A:∀q∈L,listed.getD q.1 false=false:=λq p=>by
    have:=(R.iff q.1 (b q p)).2 (zQ.2 ⟨q,p,rfl⟩);rw[qf] at this⊢;rw[qM (by rw[R.size];exact b q p)] at this⊢;simpa using this
   have m:∀q∈L,∀l,listed.getD l true=true->l<ops.size->yb ops 8 q.1 l=false:=λq p l d O=>by
    rw[Bool.eq_false_iff];intro y;have B:ops[l]? =some ops[l]:=qM O;have:=reach_listed R.down 8 q.1 l _ B (R.down l _ B d) y;rw[A q p] at this;cases this
   obtain⟨kj,K⟩:=R.ent j D;obtain⟨x,P,x1,Y,_,V⟩:=ye K;obtain⟨ki,H⟩:=R.ent i hi;obtain⟨o',t,i1,Z,_,T⟩:=ye H;rw[E] at t;injection t with t;subst t;have g:=R.pair;rw[e] at g;have M:vz ops j i=true:=(qo.1 g).2.2 j zh i zh;obtain⟨x',y',p1,p2,z,p4,p5,U⟩:=vj M;rw[P] at p1;injection p1 with p1;subst p1
   rw[E] at p2;injection p2 with p2;subst p2
   have J:yb ops 8 j.1 i.1=false:=by
    rw[Bool.eq_false_iff];intro y;have:=reach_listed R.down 8 j.1 i.1 o E Q y;rw[A j D] at this;cases this
   have F:ym ops j i x o=true:=by
    rcases z with z|z
    ·rw[J] at z;cases z
    ·exact z
   have before:∀l∈c,∀q,q=i∨q∈j::pre->vz ops l q=true:=λl d q p=>by
    rw[zq] at g;refine(qo.1 g).2.2 l d q ?_;rcases p with rfl|p
    ·simp
    ·simp only[zV];exact .inl p
   have u:∀l,wG ops l=true->l<ops.size:=λl d=>by
    simp only[wG,zi] at d;rcases Nat.lt_or_ge l ops.size with h|h
    ·exact h
    ·have:=d.1;rw[Array.getElem?_eq_none h] at this;simp at this
   refine⟨⟨x,P,F,x1,U,λl d=>?_,λW=>WW (T _ W) P,?_,λl d C G=>?_⟩,VF (post:=post) R E Q (c++[j]) pre (by rw[e];simp)⟩
   ·have f:=V l d;rcases JJ f (b i hi) with h|h|h
    ·exact absurd (h▸d) p5
    ·exfalso;by_cases n:listed.getD l true=true
     ·rw[m i hi l n (u l f)] at h;cases h
     ·have v:=(R.iff l (u l f)).1 (by simpa using n);obtain⟨s,a,rfl⟩:=zQ.1 v;rw[e] at a
      have r:vz ops j s=true∨s=j∨s∈c:=by
       rcases zV.1 a with a|a
       ·rcases zV.1 a with a|a
        ·exact .inr (.inr a)
        ·rcases zK.1 a with rfl|a
         ·exact .inr (.inl rfl)
         ·refine .inl ?_;have:=(qo.1 g).1;have:=(qo.1 this).2.1;exact(z6.1 this).1 s a
       ·exact .inl ((qo.1 g).2.2 j zh s a)
      rcases r with r|rfl|r
      ·obtain⟨_,_,_,_,_,_,N,_⟩:=vj r;exact N d
      ·exact Y d
      ·obtain⟨_,_,_,_,_,I,_,_⟩:=vj (before s r i (.inl rfl));rw[I] at h;cases h
    ·exact h
   ·have w:=R.nodup;rw[e] at w;simp only[zD,List.map_cons,zq] at w;have:=(List.nodup_append.1 w).2.1;have:=(List.nodup_append.1 this).1;exact(List.nodup_cons.1 this).1
   ·have f:=T l d;rcases JJ f (b j D) with h|h|h
    ·exact absurd h.symm C
    ·exfalso;by_cases n:listed.getD l true=true
     ·rw[m j D l n (u l f)] at h;cases h
     ·have v:=(R.iff l (u l f)).1 (by simpa using n);obtain⟨s,a,rfl⟩:=zQ.1 v;rw[e] at a;rcases zV.1 a with a|a
      ·rcases zV.1 a with a|a
       ·obtain⟨_,_,_,_,_,I,_,_⟩:=vj (before s a j (.inr zh));rw[I] at h;cases h
       ·rcases zK.1 a with rfl|a
        ·exact C rfl
        ·exact G (zQ.2 ⟨s,a,rfl⟩)
      ·rcases zK.1 a with rfl|a
       ·exact Z d
       ·have:=(qo.1 g).2.1;obtain⟨_,_,_,_,_,_,N,_⟩:=vj ((z6.1 this).1 s a);exact N d
    ·exact h
def any_sound{φ:Nat->Ob}(Y:Upto φ b)(I:Qp ops 0 ops.toList=true)(H:ops.toList.all (wF N)=true){Q:Exit->Act->World->Prop}:
    ∀ (f:Nat) (listed:Array Bool) (L:List Ent),L.length<=f->Rest ops listed L->∀ {T:Env} {h:List Ob},b<=h.length->(∀q∈L,∀o,ops[q.1]? =some o->cls o.op=3->h[b+q.2.1]? =some .res)->
      wpE P ops b K L T h->∀ {w:World} {g:Gh} {a:Act},Rel N B w g (fill φ h) a T->(∀T' h' w' g' a',K T' h'->(∀j,j<b->h[j]? =some .res->h'[j]? =some .res)->Rel N B w' g' (fill φ h') a' T'->Good B.b w g (fill φ h) w' g' (fill φ h')->Q .normal a' w')->wpAny P .any ops Q f listed a w:=by
 have J:∀(listed:Array Bool) (L:List Ent),Rest ops listed L->∀q∈L,q.1<ops.size:=λlisted L R q hq=>by
  obtain⟨k,hk⟩:=R.ent q hq;obtain⟨o,U,_⟩:=ye hk;rcases Nat.lt_or_ge q.1 ops.size with h|h
  ·exact h
  ·rw[Array.getElem?_eq_none h] at U;cases U
 have c:∀(listed:Array Bool) (L:List Ent),Rest ops listed L->Region.ready .any ops listed=[]->L=[]:=by
  intro listed L R hr;by_cases W:L=[]
  ·exact W
  exfalso;have hex:∃n,n∈L.map (·.1):=List.exists_mem_of_ne_nil _ (by simpa using W);obtain⟨n,hn,α⟩:=least hex;obtain⟨q,hq,rfl⟩:=zQ.1 hn;have l:=J listed L R q hq
  have:q.1∈Region.ready .any ops listed:=jga l ((R.iff q.1 l).2 hn) (qM l) λj X=>by
   have η:=QR ops.toList 0 I q.1 ops[q.1] (by simp[l]) j X;rw[Nat.zero_add] at η;have κ:j<ops.size:=zb;have ρ:¬ j∈L.map (·.1):=λh=>(by have:=α j h;omega);have:¬ listed.getD j true=false:=λh=>ρ ((R.iff j κ).1 h);rw[qf] at this⊢;rw[qM (by rw[R.size];omega)] at this⊢;simpa using this
  rw[hr] at this;cases this
 intro f
 induction f with
 | zero=>
   intro listed L F R T h hb z k w g a r hQ;have:L=[]:=zy zb;subst this;refine⟨?_,hQ _ _ _ g _ k (λ_ _ h=>h) r (Good.refl r.ok r.hB)⟩;rw[List.eq_nil_iff_forall_not_mem];intro i hi;obtain⟨U,h2,_⟩:=JI hi;have:=(R.iff i U).1 h2;cases this
 | succ f ih=>
   intro listed L F R T h hb z k w g a r hQ;refine⟨λhr=>?_,λi hi=>?_⟩
   ·have:=c listed L R hr;subst this;exact hQ _ _ _ g _ k (λ_ _ h=>h) r (Good.refl r.ok r.hB)
   ·obtain⟨U,h2,o,E,h3⟩:=JI hi;have ο:=(R.iff i U).1 h2;obtain⟨q,M,rfl⟩:=zQ.1 ο;obtain⟨pre,post,rfl⟩:=List.append_of_mem M;obtain⟨kq,ν⟩:=R.ent q M;obtain⟨o',A,qe,_,_,_⟩:=ye ν;rw[E] at A;injection A with A;subst A;have ι:=VF (post:=post) R E h3 [] pre zh;have O:=wpE_front E qe post pre ι (λhc=>z q M o E hc) k;have hu:Upto φ h.length:=Y.mono hb
    have Z:((pre++post).map (·.1)).Nodup/\q.1∉(pre++post).map (·.1):=by
     have:=R.nodup;simp only[zD,List.map_cons] at this⊢;rw[List.nodup_append] at this;obtain⟨n1,n2,n3⟩:=this;rw[List.nodup_cons] at n2;refine⟨?_,?_⟩
     ·rw[List.nodup_append];exact⟨n1,n2.2,λa ha b hb=>n3 a ha b (by simp[hb])⟩
     ·intro u;rcases zV.1 u with u|u
      ·exact n3 _ u q.1 zh rfl
      ·exact n2.1 u
    have v:(pre++post).Sublist (pre++q::post):=List.Sublist.append_left (List.sublist_cons_self q post) pre;have G:=λm d=>jha (listed:=listed) (i:=q.1) (by rw[R.size];exact U) m d
    have R':Rest ops (listed.setIfInBounds q.1 true) (pre++post):=by
     refine⟨by simp[R.size],Z.1,λm u=>?_,R.pair.sublist v,λp s=>R.ent p (v.subset s),λm p s u j X=>?_⟩
     ·rw[G];by_cases e:m=q.1
      ·subst e;simp only[if_true];exact⟨λh=>(by cases h),λh=>absurd h Z.2⟩
      ·rw[if_neg e,R.iff m u];simp[e]
     ·rw[G] at u⊢;split
      ·rfl
      ·by_cases e:m=q.1
       ·subst e;rw[E] at s;injection s with s;subst s;exact h3 j X
       ·rw[if_neg e] at u;exact R.down m p s u j X
    refine stepE_sound (q:=less q pre) hu Y E ?_ O r λT' h' w' a' k' ⟨g',q1,q2,q3⟩=>?_
    ·rw[zY] at H;exact H o (by simpa using Array.mem_of_getElem? E)
    ·refine ih _ (pre++post) (by simp at F ⊢;omega) R' (Nat.le_trans hb (Vv q3)) (λp s o2 V S=>?_) k' q2 λT2 h2 w2 g2 a2 k2 rr r2 z2=>hQ _ _ _ g2 _ k2 (λj X hr=>rr j X (q1 j (λ_=>by simp only[less];omega) hr)) r2 (q3.trans z2);refine q1 _ (λhc=>?_) (z p (v.subset s) o2 V S)
     have t:vz ops p q=true∨vz ops q p=true:=by
      rcases zV.1 s with s|s
      ·exact .inl ((qo.1 R.pair).2.2 p s q zh)
      ·exact .inr ((z6.1 (qo.1 R.pair).2.1).1 p s)
     have W:p.2.1≠q.2.1:=by
      rcases t with t|t
      ·obtain⟨x,y,D,C,_,_,_,e3⟩:=vj t;rw[V] at D;injection D with D;subst D
       rw[E] at C;injection C with C;subst C
       exact e3 S hc
      ·obtain⟨x,y,D,C,_,_,_,e3⟩:=vj t;rw[E] at D;injection D with D;subst D
       rw[V] at C;injection C with C;subst C
       exact λe=>e3 hc S e.symm
     simp only[less];omega
def jia{id:Nat}{Q:xk}(H:P.follows .mixedOrders=true)(k:Nat)(b:List Ent)(I:ops.toList.all (wF N)=true)(e:JF ops k b=true)(kk:wpE P ops h.length (Q .normal) b T (h++List.replicate k .res)):AWp P N B (.region id ops true) Q T h:=λφ x w g a r=>by
 simp only[JF,zi,zY,decide_eq_true_eq,List.contains_eq_mem,jb] at e;obtain⟨⟨⟨⟨⟨E,L⟩,y⟩,O⟩,D⟩,l⟩:=e;have f:=Good.drew (g:=g) r.ok r.hB;have u:=XO f.size k f.ok;have j:=f.trans u;have s:fill φ (h++List.replicate k .res)=fill φ h++List.replicate k .res:=wh x;rw[<-s] at j;have F:Rel N B w.drew g (fill φ (h++List.replicate k .res)) a T:=⟨j.ok,j.size,λi=>AR.le j.le _ _ (r.t i),r.d,r.n⟩;refine wp_region_any H ?_
 have R:Rest ops (Array.replicate ops.size false) b:=by
  refine⟨zh,D,λi hi=>?_,Zv b E,λq v=>⟨k,y q v⟩,λi o p z=>?_⟩
  ·simp[qf,hi];have:=O i hi;simpa using this
  ·have hi:i<ops.size:=by
    rcases Nat.lt_or_ge i ops.size with h|h
    ·exact h
    ·rw[Array.getElem?_eq_none h] at p;cases p
   simp[qf,hi] at z
 refine any_sound (K:=Q .normal) x L I ops.size _ b l R zh (λq v o p M=>?_) kk F λJ h' w' g' a' k' C A q=>⟨J,h',k',g',λi hi=>?_,A,j.trans q⟩
 ·obtain⟨o',c,_,_,G,_⟩:=ye (y q v);rw[p] at c;injection c with c;subst c;have:=G M;rw[zM zb,Nat.add_sub_cancel_left,List.getElem?_replicate,if_pos this]
 ·have m:=(zj.1 hi).1;exact C i m (by rw[zH m];exact hi)
end
