/-
  Joined.
-/
import Derived.Test.YtigdlmpjijhpaaaGreatK01
import Derived.Laws.Pointers
import Derived.WalkSpells
import Derived.ChangeKeysEq
import Derived.Laws.BytesString
import Derived.Laws.Cells
set_option linter.unusedSimpArgs false
set_option linter.unusedVariables false
namespace Go.Proofs.YtigdlmpjijhpaaaGreat.Ax
open Go Go.RowKit
section
variable {B:Nat} {w:World} {g:Gh} {h h':List Ob} {P:Program} {x:AV} {T:Nat->AV} {a:Act}
theorem Qf (d:Nat):∀(l:List Field) (o:Nat) (xs ys:List AV) (us vs:List Value) (U V:Array Value) (r:Bool),
  kp P o (l.map λf=>(f.offset,f.type))=true->(l.all λf=>f.name != "_")=true->xs.length=l.length->jt xs ys=some r->ARs (ctx w g h) xs us->ARs (ctx w g h) ys vs->
  (∀j,us[j]? =U[o+j]?)->(∀j,vs[j]? =V[o+j]?)->(Op.eqFields (d+1) U V l).run P w= .ok r w
 | [],o,xs,ys,us,vs,U,V,r,_,_,s,a,_,_,_,_=>by
   have:xs=[]:=List.eq_nil_of_length_eq_zero s
   subst this
   cases ys with
   | nil=>injection a with a;subst a;simp[Op.eqFields]
   | cons y ys=>cases a
 | f::l,o,xs,ys,us,vs,U,V,r,z,A,s,a,O,W,L,M=>by
   cases xs with
   | nil=>cases s
   | cons x xs=>
     cases ys with
     | nil=> cases x<;>try (cases a;done)
             rename_i v;cases v<;>cases a
     | cons y ys=>
       cases x<;>try (cases a;done)
       rename_i x
       cases x<;>try (cases a;done)
       rename_i k m
       cases y<;>try (cases a;done)
       rename_i y
       cases y<;>try (cases a;done)
       rename_i k' t
       simp only[jt] at a
       split at a
       ·rename_i T
        subst T
        cases G:jt xs ys with
        | none=>rw[G] at a;cases a
        | some R=>
          rw[G] at a
          injection a with a
          obtain ⟨u,I,K,c,J⟩:=O
          obtain ⟨v,H,F,i,C⟩:=W
          have c:u= .int k m:=c
          have i:v= .int k t:=i
          subst c i K F
          simp only[List.map_cons,kp,Bool.and_eq_true,beq_iff_eq] at z
          obtain ⟨⟨N,n⟩,z⟩:=z
          simp only[List.all_cons,Bool.and_eq_true] at A
          cases b:(zi P f.type).kind<;>rw[b] at n<;>try (cases n;done)
          rename_i kk
          obtain ⟨Y,ii,e,Q,eq⟩:=qd (qh b (by simp))
          rw[eq] at b
          cases Y<;>try (cases b;done)
          rename_i k2
          have q:=L 0
          have p:=M 0
          simp only[List.getElem?_cons_zero,Nat.add_zero] at q p
          have B:(_root_.Go.part f.type U f.offset).run P w= .ok (.int k m) w:=by
           simp[Go.part,isAgg,run_underlying e,N, <-q]
          have E:(_root_.Go.part f.type V f.offset).run P w= .ok (.int k t) w:=by
           simp[Go.part,isAgg,run_underlying e,N, <-p]
          have X:=Qf d l (o+1) xs ys I H U V R z A.2 (by simpa using s) G J C
           (λj=>by have:=L (j+1);rw[show o+1+j=o+(j+1) by omega];simpa using this) (λj=>by have:=M (j+1);rw[show o+1+j=o+(j+1) by omega];simpa using this)
          have D:f.name≠ "_" :=by simpa using A.1
          simp only[Op.eqFields,D,ne_eq,not_false_eq_true,if_true,Sem.run_bind,B,E,Result.andThen_ok,run_equalIn_int w d f.type k k2 m t e,Sem.run_ite,Sem.run_pure,X]
          cases S:(m==t)<;>simp[<-a,S]
       ·cases a
theorem KJ (o:kW (ctx w g h) T a) {t:TypeId} {X Y:Operand} {xs ys:List AV} {m:List (Nat × TypeId)} {b:Bool} (q:ev T X= .ag xs) (s:ev T Y= .ag ys) (c:(zi P t).kind= .struct m) (e:qU P t=true) (p:kp P 0 m=true) (x:xs.length=m.length) (y:jt xs ys=some b):
  ∃U V,a.eval X= .agg U/\a.eval Y= .agg V/\(Op.equalIn 10000 t (.agg U) (.agg V)).run P w= .ok b w/\P.eqGuardType P.depth t=false:=by
 have k:=qy o X
 have f:=qy o Y
 rw[q] at k
 rw[s] at f
 obtain ⟨U,v,k⟩:=k
 obtain ⟨V,u,f⟩:=f
 obtain ⟨d,i,n,r,eq⟩:=qd (qh c (by simp))
 rw[eq] at c
 cases d<;>try (cases c;done)
 rename_i fields
 injection c with c
 simp only[qU,Bool.and_eq_true,Bool.not_eq_true'] at e
 have l:P.fieldsOf t=fields:=by simp[Program.fieldsOf,n]
 rw[l] at e
 refine ⟨U,V,v,u,?_,e.1.1⟩
 rw[run_equalIn_struct (P:=P) w 9999 t U V (by rw[l];exact n) e.1.2,l]
 exact Qf (g:=g) (h:=h) 9998 fields.toList 0 xs ys U.toList V.toList U V b (by rw[<-c] at p;exact p) e.2 (by rw[x, <-c];simp) y k f (λj=>by simp) (λj=>by simp)
theorem Jh (d:Nat) {e:TypeId} {k2:IntKind} (b:P.underlying e=some (.int k2)):∀(xs ys:List AV) (o:Nat) (us vs:List Value) (U V:Array Value) (r:Bool),jt xs ys=some r->ARs (ctx w g h) xs us->ARs (ctx w g h) ys vs->(∀j,us[j]? =U[o+j]?)->(∀j,vs[j]? =V[o+j]?)->
  (Op.eqItems (d+1) e 1 U V (List.range' o xs.length)).run P w= .ok r w
 | [],ys,o,us,vs,U,V,r,a,G,H,p,t=>by
   cases ys with
   | nil=>injection a with a;subst a;rfl
   | cons y ys=>cases a
 | x::xs,ys,o,us,vs,U,V,r,a,G,H,p,t=>by
   cases ys with
   | nil=> cases x<;>try (cases a;done)
           rename_i v;cases v<;>cases a
   | cons y ys=>
     cases x<;>try (cases a;done)
     rename_i x
     cases x<;>try (cases a;done)
     rename_i k m
     cases y<;>try (cases a;done)
     rename_i y
     cases y<;>try (cases a;done)
     rename_i k' n
     simp only[jt] at a
     split at a
     ·rename_i K
      subst K
      cases B:jt xs ys with
      | none=>rw[B] at a;cases a
      | some I=>
        rw[B] at a
        injection a with a
        obtain ⟨u,D,F,c,E⟩:=G
        obtain ⟨v,C,A,f,s⟩:=H
        have c:u= .int k m:=c
        have f:v= .int k n:=f
        subst c f F A
        have l:=p 0
        have i:=t 0
        simp only[List.getElem?_cons_zero,Nat.add_zero] at l i
        have q:(_root_.Go.part e U (o*1)).run P w= .ok (.int k m) w:=by
         simp[Go.part,isAgg,run_underlying b, <-l]
        have z:(_root_.Go.part e V (o*1)).run P w= .ok (.int k n) w:=by
         simp[Go.part,isAgg,run_underlying b, <-i]
        have L:=Jh d b xs ys (o+1) D C U V I B E s
         (λj=>by have:=p (j+1);rw[show o+1+j=o+(j+1) by omega];simpa using this) (λj=>by have:=t (j+1);rw[show o+1+j=o+(j+1) by omega];simpa using this)
        rw[List.length_cons,List.range'_succ]
        simp only[Op.eqItems,Sem.run_bind,q,z,Result.andThen_ok,run_equalIn_int w d e k k2 m n b,Sem.run_ite,Sem.run_pure,L]
        cases J:(m==n)<;>simp[<-a,J]
     ·cases a
theorem y1a (y:kW (ctx w g h) T a) {t e:TypeId} {n:Nat} {X Y:Operand} {xs ys:List AV} {b:Bool} (J:ev T X= .ag xs) (D:ev T Y= .ag ys) (p:(zi P t).kind= .arr n e) (x:qU P t=true) (z:vWa P e=true) (G:xs.length=n) (H:jt xs ys=some b):
  ∃U V,a.eval X= .agg U/\a.eval Y= .agg V/\(Op.equalIn 10000 t (.agg U) (.agg V)).run P w= .ok b w/\P.eqGuardType P.depth t=false:=by
 have o:=qy y X
 have q:=qy y Y
 rw[J] at o
 rw[D] at q
 obtain ⟨U,A,o⟩:=o
 obtain ⟨V,E,q⟩:=q
 obtain ⟨d,i,I,C,eq⟩:=qd (qh p (by simp))
 rw[eq] at p
 cases d<;>try (cases p;done)
 rename_i n' v
 injection p with hk1 hk2
 subst hk1
 subst hk2
 simp only[qU,Bool.and_eq_true,Bool.not_eq_true'] at x
 simp only[vWa,Bool.and_eq_true,beq_iff_eq] at z
 obtain ⟨m,c⟩:=z
 cases f:(zi P v).kind<;>rw[f] at m<;>try (cases m;done)
 rename_i k
 obtain ⟨F,B,s,l,r⟩:=qd (qh f (by simp))
 rw[r] at f c
 cases F<;>try (cases f;done)
 have u:P.cellsOf v=1:=by
  have c:B.size=1:=c
  simp[Program.cellsOf,l,c]
 refine ⟨U,V,A,E,?_,x.1.1⟩
 rw[run_equalIn_array (P:=P) w 9999 U V I l,u,List.range_eq_range', <-G]
 exact Jh (g:=g) (h:=h) 9998 s xs ys 0 U.toList V.toList U V b H o q (λj=>by simp) (λj=>by simp)
theorem vYa (z:HOk B w g h) (hB:B<=w.heap.size) (u:kW (ctx w g h) T a) {op:BinOp} {t:TypeId} {X Y:Operand} (c:xCa P op t (ev T X) (ev T Y)=some x):
  DidV P (do eqGuard op t X Y (a.eval X) (a.eval Y);binOp op t (a.eval X) (a.eval Y)) B w g h x h:=by
 unfold xCa at c
 split at c
 ·rename_i k m k' n s r
  have j:=vE u s
  have l:=vE u r
  have G:(eqGuard op t X Y (.int k m) (.int k' n)).run P w= .ok () w:=by cases op<;>simp[eqGuard]
  split at c
  ·split at c
   ·rename_i I
    have H:¬ n<0:=by omega
    rw[j,l]
    cases op<;>simp only[YW] at c<;>first
     | cases c;done
     | (injection c with c
        subst c
        refine qr z hB ?_ rfl
        simp[G,binOp,Op.shift,H]
        done)
   ·cases c
  ·rename_i J
   split at c
   ·rename_i f
    subst f
    rw[j,l]
    cases op<;>simp only[YX] at c<;>first
     | cases c;done
     | (injection c with c;subst c
        refine qr z hB ?_ rfl
        simp[G,binOp,Op.intArith,Op.intCmp,Op.intDiv,Op.intBits]
        done)
     | (split at c
        ·cases c
        ·rename_i I
         injection c with c
         subst c
         refine qr z hB ?_ rfl
         simp[G,binOp,Op.intDiv,I])
   ·cases c
 ·rename_i p q s r
  have j:=vE u s
  have l:=vE u r
  split at c
  ·rename_i f
   injection c with c
   subst c
   obtain ⟨d,i,C,A,eq⟩:=qd (qh f (by simp))
   rw[eq] at f
   cases d<;>try (cases f;done)
   rw[j,l]
   refine qr z hB ?_ rfl
   simp[eqGuard,binOp,Op.equal,Op.maxDepth,run_equalIn_bool' w 9999 t p q C]
  ·rename_i f
   injection c with c
   subst c
   obtain ⟨d,i,C,A,eq⟩:=qd (qh f (by simp))
   rw[eq] at f
   cases d<;>try (cases f;done)
   rw[j,l]
   refine qr z hB ?_ rfl
   simp[eqGuard,binOp,Op.equal,Op.maxDepth,run_equalIn_bool' w 9999 t p q C]
  ·cases c
 ·rename_i xs ys s r
  split at c
  ·rename_i K f
   split at c
   ·rename_i o
    simp only[Bool.and_eq_true,beq_iff_eq] at o
    cases y:jt xs ys with
    | none=>rw[y] at c;cases c
    | some b=>
      rw[y] at c
      injection c with c
      subst c
      obtain ⟨U,V,j,l,F,D⟩:=KJ u s r f o.1.1 o.1.2 o.2 y
      rw[j,l]
      refine qr z hB ?_ rfl
      simp only[Sem.run_bind,run_eqGuard_agg w _ t X Y U V D,Result.andThen_ok,run_eql_struct,F]
   ·cases c
  ·rename_i K f
   split at c
   ·rename_i o
    simp only[Bool.and_eq_true,beq_iff_eq] at o
    cases y:jt xs ys with
    | none=>rw[y] at c;cases c
    | some b=>
      rw[y] at c
      injection c with c
      subst c
      obtain ⟨U,V,j,l,F,D⟩:=KJ u s r f o.1.1 o.1.2 o.2 y
      rw[j,l]
      refine qr z hB ?_ rfl
      simp only[Sem.run_bind,run_eqGuard_agg w _ t X Y U V D,Result.andThen_ok,run_neq_struct,F]
   ·cases c
  ·rename_i n e f
   split at c
   ·rename_i o
    simp only[Bool.and_eq_true,beq_iff_eq] at o
    cases y:jt xs ys with
    | none=>rw[y] at c;cases c
    | some b=>
      rw[y] at c
      injection c with c
      subst c
      obtain ⟨U,V,j,l,F,D⟩:=y1a u s r f o.1.1 o.1.2 o.2 y
      rw[j,l]
      refine qr z hB ?_ rfl
      simp only[Sem.run_bind,run_eqGuard_agg w _ t X Y U V D,Result.andThen_ok,run_eql_struct,F]
   ·cases c
  ·cases c
 ·rename_i s r
  have j:=vE u s
  have l:=vE u r
  split at c
  all_goals first | cases c;done | skip
  all_goals
   rename_i f
   injection c with c
   subst c
   obtain ⟨d,i,C,A,eq⟩:=qd (qh f (by simp))
   rw[eq] at f
   cases d<;>try (cases f;done)
   rw[j,l]
   refine qr z hB ?_ rfl
   have v:P.underlying t=some (.pointer (P.pointee t)):=by simp[Program.pointee,C]
   simp[eqGuard,run_eql_pointer_nil w t _ v,run_neq_pointer_nil w t _ v]
 ·rename_i id off s r
  have E:=qy u X
  rw[s] at E
  obtain ⟨_,j⟩:=E
  have l:=vE u r
  split at c
  all_goals first | cases c;done | skip
  all_goals
   rename_i f
   injection c with c
   subst c
   obtain ⟨d,i,C,A,eq⟩:=qd (qh f (by simp))
   rw[eq] at f
   cases d<;>try (cases f;done)
   rw[j,l]
   refine qr z hB ?_ rfl
   have v:P.underlying t=some (.pointer (P.pointee t)):=by simp[Program.pointee,C]
   simp[eqGuard,run_eql_pointer_nil w t _ v,run_neq_pointer_nil w t _ v]
 ·rename_i p q s r
  have j:=vE u s
  have l:=vE u r
  rw[j,l]
  cases op<;>simp only at c<;>first
   | cases c;done
   | (injection c with c
      subst c
      refine qr z hB ?_ rfl
      simp[eqGuard,binOp,Op.stringOp])
 ·cases c
theorem Ws (f:HOk B w g h) {y:AV} {u:Value} (a:ZG h y=true) (c:AR (ctx w g h) y u):∃A n k,u= .slice (some A) n k:=by
 unfold ZG at a
 rw[Bool.or_eq_true] at a
 rcases a with a | a
 ·unfold yZa at a
  split at a
  ·obtain ⟨A,k,e⟩:=c;exact ⟨A,0,k,e⟩
  ·cases a
 ·unfold VD at a
  split at a
  ·rename_i r rs e d m
   simp only[decide_eq_true_eq] at a
   obtain ⟨A,k,i,q,o,_⟩:=xz f _ c d
   have b:=o e m
   have s:=b.len r (by simp)
   obtain ⟨l,p,j,_⟩:=b.cell 0 0 r (nth r 0) rfl (wg (by omega))
   subst j
   exact ⟨l,_,_,i⟩
  ·cases a
theorem vZa (q:HOk B w g h) (hB:B<=w.heap.size) (D:kW (ctx w g h) T a) {op:BinOp} {t:TypeId} {X Y:Operand} (p:Zc Y=true) (f:Wm P h op t (ev T X)=some x):
  DidV P (do eqGuard op t X Y (a.eval X) (a.eval Y);binOp op t (a.eval X) (a.eval Y)) B w g h x h:=by
 have z:∃n c,a.eval Y= .slice none n c:=by
  unfold Zc at p
  split at p
  ·exact ⟨_,_,rfl⟩
  ·cases p
 obtain ⟨n,c,C⟩:=z
 rw[C]
 unfold Wm at f
 split at f
 ·rename_i e s
  obtain ⟨d,i,v,y,eq⟩:=qd (qh s (by simp))
  rw[eq] at s
  cases d<;>try (cases s;done)
  have key:∀A m k b,a.eval X= .slice A m k->A.isNone=b->J4 op b=some x->DidV P (do eqGuard op t X Y (a.eval X) (.slice none n c);binOp op t (a.eval X) (.slice none n c)) B w g h x h:=λA m k b o u j=>by
   rw[o]
   cases op<;>simp only[J4] at j<;>first
    | cases j;done
    | skip
   ·injection j with j
    subst j
    refine qr q hB ?_ rfl
    simp[eqGuard,Lib.run_eql_slice_nil w t _ A m k n c v,u]
   ·injection j with j
    subst j
    refine qr q hB ?_ rfl
    simp[eqGuard,run_neq_slice_nil_any w t _ A m k n c v,u]
  have l:=qy D X
  split at f
  ·rename_i r
   unfold yH at r
   split at r
   ·rename_i m k o
    rw[o] at l
    have l:a.eval X= .slice none m k:=l
    exact key none m k true l rfl f
   ·cases r
  ·split at f
   ·rename_i E
    obtain ⟨A,m,k,o⟩:=Ws q E l
    exact key (some A) m k false o rfl f
   ·cases f
 ·cases f
end
section
variable {B:Nat} {w:World} {g:Gh} {h h':List Ob} {P:Program} {x:AV} {T:Nat->AV} {a:Act}
theorem J7 (G:HOk B w g h) {y:AV} {u:Value} {id st i n:Nat} (a:jI h y=some (id,st,i,n)) (z:AR (ctx w g h) y u):
  ∃ty e xs A k,h[id]? =some (.row ty e xs st)/\i+n<=xs.length/\u= .slice A n k/\(0<n->∃o m f,g.cur id= .slice (some o) m f/\A=some (o.add (i*e))):=by
 unfold jI at a
 split at a
 ·rename_i c st'
  split at a
  ·rename_i ty e xs s j
   split at a
   ·rename_i v
    injection a with a
    injection a with h1 a
    injection a with h2 a
    injection a with h3 h4
    subst h1 h2 h3 h4
    subst v
    have q:=ZE z j
    obtain ⟨R,Q,cells,C,O⟩:=G.ok _ _ j
    obtain ⟨A,f,b,K⟩:=ko C
    have b:g.cur c= .slice A xs.length f:=b
    refine ⟨ty,e,xs,A,f,j,by omega,q.trans b,λl=>?_⟩
    rcases C.2 with ⟨d,x⟩ | ⟨J,cap,cur,d,_⟩
    ·rw[x] at l;simp at l
    ·have d:g.cur c=_:=d
     rw[d] at b
     injection b with b e3 e4
     exact ⟨_,_,_,d,by rw[<-b,Nat.zero_mul];rfl⟩
   ·cases a
  ·cases a
 ·rename_i c st' L M N
  split at a
  ·rename_i ty e xs s j
   split at a
   ·rename_i v
    obtain ⟨r,t,p⟩:=v
    injection a with a
    injection a with h1 a
    injection a with h2 a
    injection a with h3 h4
    subst h1 h2 h3 h4
    subst r t
    obtain ⟨A,m,f,E,k,D,P,I,F,H,_⟩:=z
    have q:=ZE D j
    refine ⟨ty,e,xs,E,k,j,p,F,λl=>?_⟩
    obtain ⟨o,d,x⟩:=H l
    subst d
    exact ⟨o,m,f,q.symm,x⟩
   ·cases a
  ·cases a
 ·cases a
theorem zZ {α:Type} {l:List α} {i:Nat} {a:α} (h:l[i]? =some a):l.set i a=l:=by
 apply List.ext_getElem?
 intro j
 by_cases b:i=j
 ·subst b;rw[List.getElem?_set_self (List.getElem?_eq_some_iff.1 h).1,h]
 ·rw[List.getElem?_set_ne b]
theorem qva:∀(p q r s:List AV),q.length=s.length->lay (p++q++r) p.length s=some (p++s++r)
 | [],q,r,s,c=>by
   have key:∀(s q:List AV),q.length=s.length->lay (q++r) 0 s=some (s++r):=by
    intro s
    induction s with
    | nil=>
      intro q b
      have:q=[]:=List.eq_nil_of_length_eq_zero (by simpa using b)
      subst this
      simp only[List.nil_append]
      cases r<;>rfl
    | cons y s d=>
      intro q b
      cases q with
      | nil=>cases b
      | cons z q=>
        simp only[List.cons_append,lay]
        rw[d q (by simpa using b)]
        rfl
   simpa using key s q c
 | a::p,q,r,s,c=>by
   have:=qva p q r s c
   simp only[List.cons_append,List.length_cons,lay]
   rw[this]
   rfl
theorem xEa {e:Nat} {xs ys:List (List AV)} {i:Nat} (d:∀x∈xs,x.length=e) (g:∀y∈ys,y.length=e) (k:i+ys.length<=xs.length):
  lay xs.flatten (i*e) ys.flatten=some (ju xs i ys).flatten/\(∀x∈ju xs i ys,x.length=e)/\(ju xs i ys).length=xs.length:=by
 have j:xs=xs.take i++(xs.drop i).take ys.length++xs.drop (i+ys.length):=by
  rw[List.append_assoc, <-List.drop_drop,List.take_append_drop,List.take_append_drop]
 have a:∀x∈xs.take i,x.length=e:=λx h=>d x (List.mem_of_mem_take h)
 have b:∀x∈(xs.drop i).take ys.length,x.length=e:=λx h=>d x (List.mem_of_mem_drop (List.mem_of_mem_take h))
 have c:(xs.take i).flatten.length=i*e:=by rw[j9 a];congr 1;simp;omega
 have f:((xs.drop i).take ys.length).flatten.length=ys.flatten.length:=by rw[j9 b,j9 g];congr 1;simp;omega
 refine ⟨?_,λx h=>?_,by simp[ju];omega⟩
 ·have:=qva (xs.take i).flatten ((xs.drop i).take ys.length).flatten (xs.drop (i+ys.length)).flatten ys.flatten f
  rw[c] at this
  conv=>lhs;rw[j]
  simp only[List.flatten_append,ju]
  exact this
 ·unfold ju at h
  rcases List.mem_append.1 h with h | h
  ·rcases List.mem_append.1 h with h | h
   ·exact a x h
   ·exact g x h
  ·exact d x (List.mem_of_mem_drop h)
theorem Wt (d:HOk B w g h) (hB:B<=w.heap.size) {id st i n ty e:Nat} {xs ys:List (List AV)} (c:h[id]? =some (.row ty e xs st)) (a:i+ys.length<=xs.length) (j:∀y∈ys,y.length=e) {f:Addr} {m r:Nat} (k:g.cur id= .slice (some f) m r)
  {vs:List Value} (b:ARs (ctx w g h) ys.flatten vs) (p:∀v∈vs,v.oneCell'=true):
  ∃w' g',(storeCells (f.add (i*e)) vs).run P w= .ok () w'/\Good B w g h w' g' (h.set id (.row ty e (ju xs i ys) st)):=by
 obtain ⟨t,q,cells,s,u⟩:=d.ok _ _ c
 obtain ⟨o,l2,l⟩:=xEa q j a
 exact qua d hB c k b p o l2 l
theorem jba (E:HOk B w g h) (hB:B<=w.heap.size) {t ty e:TypeId} {y:AV} {u:Value} (Y:AR (ctx w g h) y u) (f:(zi P t).kind= .slice e) {id st i n:Nat} (K:jI h y=some (id,st,i,n)) {z:List Value} (s:(zi P e).zero=some z)
  (X:(zi P e).ok=true) (W:z.length=(zi P e).sz) (b:jZ h id i e (zi P e).sz (List.replicate n (z.map .v))=some h'):
  ∃w' g',(Builtin.clear_ #[t] ty #[u]).run P w= .ok (.tuple #[]) w'/\Good B w g h w' g' h':=by
 obtain ⟨d,it,l,O,eq⟩:=qd (qh f (by simp))
 rw[eq] at f
 cases d<;>try (cases f;done)
 injection f with f
 subst f
 rename_i e
 obtain ⟨M,R,xs,A,k,p1,p2,H,I⟩:=J7 E K Y
 unfold jZ at b
 rw[p1] at b
 simp only at b
 split at b
 ·rename_i Z
  obtain ⟨N,c2,L⟩:=Z
  injection b with b
  subst b
  subst N
  by_cases J:n=0
  ·subst J
   have:ju xs i (List.replicate 0 (z.map AV.v))=xs:=by simp[ju]
   rw[this,zZ p1]
   refine ⟨w,g,?_,Good.refl E hB⟩
   subst H
   cases A<;>simp[Builtin.clear_,run_underlying l]
  ·obtain ⟨ad,m,cp,T,U⟩:=I (by omega)
   obtain ⟨d',V,S,G,q⟩:=qd X
   cases c:V.zero with
   | none=>rw[q] at s;simp[c] at s
   | some C=>
     have D:C.cells.toList=z:=by rw[q] at s;simpa [c] using s
     have a:∀y∈List.replicate n (z.map AV.v),y.length=R:=λy hy=>by rw[List.eq_of_mem_replicate hy];simp[W,c2]
     have F:(List.replicate n (z.map AV.v)).flatten=(List.replicate n z).flatten.map AV.v:=by
      clear a L p2 I H K
      induction n with
      | zero=>simp
      | succ m ih=>simp[List.replicate_succ]
     have o:∀v∈(List.replicate n z).flatten,v.oneCell'=true:=λv hv=>by
      obtain ⟨r,x,j⟩:=List.mem_flatten.1 hv
      rw[List.eq_of_mem_replicate x] at j
      have:=List.all_eq_true.1 L (z.map AV.v) (by rw[List.mem_replicate];exact ⟨J,rfl⟩)
      simp only[Bool.and_eq_true] at this
      have:=List.all_eq_true.1 this.2 (.v v) (List.mem_map.2 ⟨v,j,rfl⟩)
      exact this
     obtain ⟨w',g',Q,s2⟩:=Wt (P:=P) (n:=n) E hB p1 (i:=i) (ys:=List.replicate n (z.map AV.v)) (by simpa using p2) a T (vs:=(List.replicate n z).flatten) (by rw[F];exact Qa _) o
     refine ⟨w',g',?_,s2⟩
     subst H
     subst U
     have p:(Builtin.zeroCells C.cells n).toList=(List.replicate n z).flatten:=by
      have:=Zx C.cells n
      rw[D] at this
      exact this
     obtain ⟨n,rfl⟩:∃m,n=m+1:=⟨n - 1,by omega⟩
     simp[Builtin.clear_,run_underlying l,J5 G c,p,Q]
 ·cases b
theorem KL {sz n:Nat} {A:Option Addr} {m k:Nat} {vs:List Value} (b:vs.length=n*sz) (d:A=none->n=0) (c:∀a,A=some a->∀j u,vs[j]? =some u->w.cell? (a.add j)=some u):(Builtin.firstCells sz n (.slice A m k)).run P w= .ok vs.toArray w:=by
 cases A with
 | none=>
   have:vs=[]:=List.eq_nil_of_length_eq_zero (by rw[b,d rfl,Nat.zero_mul])
   subst this
   simp[Builtin.firstCells]
 | some a=>
   have:=run_loadCells_list (P:=P) w a vs (c a rfl)
   rw[b] at this
   simpa [Builtin.firstCells] using this
theorem xFa (N:HOk B w g h) (hB:B<=w.heap.size) {t ty e:TypeId} {y s:AV} {u v:Value} (hu:AR (ctx w g h) y u) (hv:AR (ctx w g h) s v) (x:(zi P t).kind= .slice e) {id st i n:Nat} (hp:jI h y=some (id,st,i,n)) {ys:List (List AV)} (C:zo h s=some ys)
  (ho:(zi P e).ok=true) (h0:0<(zi P e).sz) (o:jZ h id i e (zi P e).sz (ys.take n)=some h'):
  ∃w' g',(Builtin.copy_ #[t,t] ty #[u,v]).run P w= .ok (.int .i64 ((ys.take n).length:Nat)) w'/\Good B w g h w' g' h':=by
 obtain ⟨d,it,G,η,eq⟩:=qd (qh x (by simp))
 rw[eq] at x
 cases d<;>try (cases x;done)
 injection x with x
 subst x
 rename_i e
 obtain ⟨Q,Z,xs,A,k,p1,p2,p3,p4⟩:=J7 N hp hu
 obtain ⟨Y,k2,r1,r2,r3,r4⟩:=xz N _ hv C
 unfold jZ at o
 rw[p1] at o
 simp only at o
 split at o
 ·rename_i hc
  obtain ⟨c1,c2,c3⟩:=hc
  injection o with o
  subst o
  subst c1
  obtain ⟨d',M,ν,J,V⟩:=qd ho
  have X:(zi P Q).sz=M.size:=by rw[V]
  have c:(ys.take n).length=min ys.length n:=by rw[List.length_take,Nat.min_comm]
  have l:∀r∈ys.take n,r.length=Z/\r.all AV.one=true:=λr C=>by
   have:=List.all_eq_true.1 c3 r C
   simp only[Bool.and_eq_true,beq_iff_eq] at this
   exact ⟨by rw[c2];exact this.1,this.2⟩
  by_cases D:(ys.take n).length=0
  ·have R:ys.take n=[]:=List.eq_nil_of_length_eq_zero D
   have:ju xs i (ys.take n)=xs:=by rw[R];simp[ju]
   rw[this,zZ p1]
   refine ⟨w,g,?_,Good.refl N hB⟩
   subst p3
   subst r1
   have K:Nat.min ys.length n=0:=by rw[<-D,c]
   have O:=KL (P:=P) (w:=w) (sz:=M.size) (n:=0) (A:=Y) (m:=ys.length) (k:=k2) (vs:=[]) (by simp) (λ_=>rfl) (λ_ _ _ _ h=>by simp at h)
   rw[D]
   cases A<;>simp[Builtin.copy_,run_underlying G,Builtin.lenOf,sizeOf,typeInfo,J,K,O,goInt,storeCells]
  ·have W:0<n:=by
    rcases Nat.eq_zero_or_pos n with h | h
    ·subst h;simp at D
    ·exact h
   obtain ⟨ad,m,cp,q1,q2⟩:=p4 W
   subst q2
   have p:ys≠[]:=λh=>by subst h;simp at D
   cases I:eOf h s with
   | none=>exact absurd (r4 I) p
   | some L=>
     have f:=r3 L I
     obtain ⟨r0,F⟩:∃r,r∈ys.take n:=List.exists_mem_of_ne_nil _ (λh=>D (by rw[h];rfl))
     have U:L=Z:=by rw[<-f.len r0 (List.mem_of_mem_take F)];exact (l r0 F).1
     subst U
     obtain ⟨b,T⟩:∃b,Y=some b:=by
      cases z:ys with
      | nil=>exact absurd z p
      | cons q qs=>
        have hq:=f.len q (by rw[z];simp)
        obtain ⟨b,u',z1,_⟩:=f.cell 0 0 q (nth q 0) (by rw[z];rfl) (wg (by omega))
        exact ⟨b,z1⟩
     subst T
     have H:RowsAt w (ctx w g h) L (ys.take n) (some b):=⟨λr C=>(l r C).1,λj k r a E x=>by
      rw[List.getElem?_take] at E
      split at E
      ·exact f.cell j k r a E x
      ·cases E⟩
     obtain ⟨news,n1,n2,n3,n4⟩:=KI H λr C=>(l r C).2
     obtain ⟨w',g',s1,s2⟩:=Wt (P:=P) (n:=n) N hB p1 (i:=i) (ys:=ys.take n) (by rw[c];omega) (λy hy=>(l y hy).1) q1 n4 n3
     refine ⟨w',g',?_,s2⟩
     subst p3
     subst r1
     have K:Nat.min ys.length n=(ys.take n).length:=c.symm
     have S:L=M.size:=by rw[c2,X]
     have O:=KL (P:=P) (w:=w) (sz:=M.size) (n:=(ys.take n).length) (A:=some b) (m:=ys.length) (k:=k2) (vs:=news) (by rw[n1,S]) (λh=>by cases h) (λad h j u E=>by injection h with h;subst h;exact n2 j u E)
     obtain ⟨q,hq⟩:∃q,(ys.take n).length=q:=⟨_,rfl⟩
     rw[hq] at K O⊢
     simp[Builtin.copy_,run_underlying G,Builtin.lenOf,sizeOf,typeInfo,J,K,O,s1,goInt]
 ·cases o
theorem jca (J:HOk B w g h) (hB:B<=w.heap.size) (D:kW (ctx w g h) T a) {t e:TypeId} {X:Operand} {lo j:Option Operand} {xs:List (List AV)} {l m:Int} (p:(zi P t).kind= .slice e) (S:zo h (ev T X)=some xs) (i:wi T 0 lo=some l) (f:wi T xs.length j=some m)
  (R:(zi P e).ok=true) (h0:0<=l) (h1:l<=m) (K:m<=xs.length) (s:l=m∨(0<(zi P e).sz/\eOf h (ev T X)=some (zi P e).sz)):DidV P (Instr.sliceAt t (a.eval X) (lo.map a.eval) (j.map a.eval) none) B w g h (.vw (ev T X) (zi P e).sz l.toNat (m.toNat - l.toNat)) h:=by
 obtain ⟨d,it,z,L,eq⟩:=qd (qh p (by simp))
 rw[eq] at p
 cases d<;>try (cases p;done)
 injection p with p
 subst p
 rename_i e
 obtain ⟨Z,Q,O,E,F⟩:=qd R
 have I:=qy D X
 obtain ⟨A,k,H,r2,N,r4⟩:=xz J _ I S
 have c:(match lo.map a.eval with | some v=>Instr.sliceBound v m.toNat .sliceB | none=>pure 0:Sem Nat).run P w= .ok l.toNat w:=by
  cases lo with
  | none=>injection i with i;subst i;rfl
  | some x=>
    simp only[wi] at i
    split at i
    ·rename_i kk n u
     injection i with i
     subst i
     have:=vE D u
     simp only[Option.map_some,this,Instr.sliceBound,asIntOf,Sem.run_bind,Sem.run_pure,Result.andThen_ok,if_pos (show 0<=n/\n<=(m.toNat:Int) by omega)]
    ·cases i
 have b:(match j.map a.eval with | some v=>Instr.sliceBound v k .sliceAcap | none=>pure xs.length:Sem Nat).run P w= .ok m.toNat w:=by
  cases j with
  | none=>injection f with f;subst f;simp
  | some x=>
    simp only[wi] at f
    split at f
    ·rename_i kk n u
     injection f with f
     subst f
     have:=vE D u
     simp only[Option.map_some,this,Instr.sliceBound,asIntOf,Sem.run_bind,Sem.run_pure,Result.andThen_ok,if_pos (show 0<=n/\n<=(k:Int) by omega)]
    ·cases f
 refine qr J hB (v:= .slice (if k=l.toNat then A else A.map (·.add (l.toNat*Q.size))) (m.toNat - l.toNat) (k - l.toNat)) ?_ ?_
 ·have U:(Instr.sliceBounds true xs.length k (lo.map a.eval) (j.map a.eval) none).run P w= .ok (l.toNat,m.toNat,k) w:=by
   unfold Instr.sliceBounds
   cases lo with
   | none=>cases j with
     | none=>
       injection c with c
       injection b with b
       simp[c,b]
     | some x=>
       injection c with c
       simp only[Option.map_some] at b
       simp[c,b]
   | some y=>cases j with
     | none=>
       injection b with b
       simp only[Option.map_some] at c
       simp[c,b]
     | some x=>
       simp only[Option.map_some] at c b
       simp[c,b]
  simp only[Instr.sliceAt,Sem.run_bind,run_underlying z,Result.andThen_ok,Instr.slice,H]
  simp only[Sem.run_bind,U,Result.andThen_ok,sizeOf,typeInfo,run_program]
  simp[E]
 ·refine ⟨A,xs.length,k,_,_,by rw[<-H];exact I,by omega,by omega,rfl,λhn=>?_,λh0=>?_⟩
  rotate_left
  ·rw[h0]
   refine ⟨?_,rfl⟩
   split
   ·exact .inl rfl
   ·exact .inr (by simp)
  have C:k≠l.toNat:=by omega
  rw[if_neg C]
  cases A with
  | some Y=>exact ⟨Y,rfl,by rw[F];rfl⟩
  | none=>
    exfalso
    rcases s with he | ⟨V,G⟩
    ·omega
    ·have r:=N _ G
     cases o:xs with
     | nil=>rw[o] at K;simp at K;omega
     | cons q qs=>
       have hq:=r.len q (by rw[o];simp)
       obtain ⟨M,u',W,_⟩:=r.cell 0 0 q (nth q 0) (by rw[o];rfl) (wg (by omega))
       cases W
end
section
variable {B:Nat} {w:World} {g:Gh} {h h':List Ob} {P:Program} {x:AV} {T:Nat->AV} {a:Act} {kk:IntKind} {n:Int} {v:AV}
theorem qQ:∀ {es:List (AV × AV)},jV kk es=true↔∀p∈es,p.1= .v (.int kk (jJ p))
 | []=>by simp[jV]
 | p::r=>by
   have c:=qQ (es:=r)
   constructor
   ·intro h q a
    unfold jV at h
    split at h
    ·rename_i heq;cases heq
    ·rename_i k m u d heq
     injection heq with b h2
     subst b h2
     simp only[Bool.and_eq_true,beq_iff_eq] at h
     rcases List.mem_cons.1 a with rfl | a
     ·simp[jJ,h.1]
     ·exact c.1 h.2 q a
    ·cases h
   ·intro h
    obtain ⟨p1,p2⟩:=p
    have h0:p1=_:=h (p1,p2) (by simp)
    have b:=c.2 λq a=>h q (by simp[a])
    rw[h0]
    simp[jV,b]
theorem Ji {a b:List (AV × AV)} (d:a.Perm b) (h:jV kk b=true):jV kk a=true:=by
 rw[qQ] at h⊢
 exact λp c=>h p (d.mem_iff.1 c)
theorem ZJ:∀ {es:List (AV × AV)},jy n es=true↔∃p∈es,jJ p=n
 | []=>by simp[jy]
 | p::r=>by simp[jy,ZJ (es:=r)]
theorem kr:∀(es:List (AV × AV)),qV kk n v es=es.map λp=>if jJ p=n then (.v (.int kk n),v) else p
 | []=>rfl
 | p::r=>by simp[qV,kr r]
theorem wj:∀(es:List (AV × AV)),(qE kk n v es).Perm ((.v (.int kk n),v)::es)
 | []=> .refl _
 | p::r=>by
   unfold qE
   split
   ·exact .refl _
   ·exact ((wj r).cons p).trans (.swap _ _ _)
theorem Jj {n n':Int} {v v':AV} (d:n≠n'):∀(es:List (AV × AV)),qE kk n v (qE kk n' v' es)=qE kk n' v' (qE kk n v es)
 | []=>by
   simp only[qE,jJ]
   by_cases h:n<n'
   ·simp[h,show ¬ n'<n by omega]
   ·simp[h,show n'<n by omega]
 | p::r=>by
   have e:=Jj (v:=v) (v':=v') d r
   have k1:jJ (.v (.int kk n),v)=n:=rfl
   have k2:jJ (.v (.int kk n'),v')=n':=rfl
   by_cases b:n<jJ p
   ·by_cases a:n'<jJ p
    ·by_cases c:n<n'
     ·simp[qE,b,a,c,k1,k2,show ¬ n'<n by omega]
     ·simp[qE,b,a,c,k1,k2,show n'<n by omega]
    ·have c:n<n':=by omega
     simp[qE,b,a,k1,show ¬ n'<n by omega]
   ·by_cases a:n'<jJ p
    ·have c:n'<n:=by omega
     simp[qE,b,a,k2,show ¬ n<n' by omega]
    ·simp[qE,b,a,e]
theorem xb {c:Ctx}:∀ {l:List (AV × AV)} {es:List MapEntry},MapRel c l es->l.length=es.length
 | [],es,h=>by have h:es=[]:=h;simp[h]
 | p::r,es,⟨e,q,a,_,_,b⟩=>by subst a;simp[xb b]
theorem jK {c:Ctx}:∀ {l:List (AV × AV)} {es:List MapEntry},MapRel c l es->∀(i:Nat) (p:AV × AV),l[i]? =some p->∃e,es[i]? =some e/\AR c p.1 e.key/\AR c p.2 e.val
 | q::r,es,⟨e,s,b,f,d,g⟩,0,p,a=>by injection a with a;subst a b;exact ⟨e,rfl,f,d⟩
 | q::r,es,⟨e,s,b,f,d,g⟩,i+1,p,a=>by
   subst b
   exact jK g i p (by simpa using a)
theorem QJ {c:Ctx}:∀ {l:List (AV × AV)} {es:List MapEntry},l.length=es.length->(∀(i:Nat) (p:AV × AV) (e:MapEntry),l[i]? =some p->es[i]? =some e->AR c p.1 e.key/\AR c p.2 e.val)->MapRel c l es
 | [],[],_,_=>rfl
 | [],_::_,h,_=>by cases h
 | _::_,[],h,_=>by cases h
 | p::l,e::es,b,h=>⟨e,es,rfl,(h 0 p e rfl rfl).1,(h 0 p e rfl rfl).2,QJ (by simpa using b) λi p e a d=>h (i+1) p e (by simpa using a) (by simpa using d)⟩
theorem ZK {kk':IntKind}:∀(es:List MapEntry) (i:Nat),(∀e∈es,∃m,e.key= .int kk m)->(∀e∈es,e.key≠ .int kk n)/\Instr.findNow (.int kk') (.int kk n) es i=some none∨∃j e,es[j]? =some e/\e.key= .int kk n/\Instr.findNow (.int kk') (.int kk n) es i=some (some (i+j,e.val))
 | [],i,_=> .inl ⟨by simp,rfl⟩
 | e::es,i,l=>by
   obtain ⟨m,c⟩:=l e (by simp)
   by_cases b:n=m
   ·subst b
    exact .inr ⟨0,e,rfl,c,by simp[Instr.findNow,c,Instr.sameNow]⟩
   ·have k:Instr.sameNow (.int kk') (.int kk n) e.key=some false:=by simp[c,Instr.sameNow,b]
    rcases ZK (kk':=kk') es (i+1) (λe p=>l e (by simp[p])) with ⟨f,d⟩ | ⟨j,g,f,d,o⟩
    ·refine .inl ⟨λg a=>?_,by simp[Instr.findNow,k,d]⟩
     rcases List.mem_cons.1 a with rfl | a
     ·rw[c];intro h;injection h with _ h;exact b h.symm
     ·exact f g a
    ·exact .inr ⟨j+1,g,by simpa using f,d,by simp[Instr.findNow,k,o];omega⟩
theorem KN {es:List MapEntry} (c:(es.map (·.key)).Nodup) {i j:Nat} {e a:MapEntry} (h:es[i]? =some e) (d:es[j]? =some a) (k:e.key=a.key):i=j:=by
 have b:(es.map (·.key))[i]? =some e.key:=by simp[h]
 have g:(es.map (·.key))[j]? =some e.key:=by simp[d,k]
 have f:=(List.getElem?_eq_some_iff.1 b).1
 exact (List.getElem?_inj f c).1 (b.trans g.symm)
theorem Wu {c:Ctx} {l:List (AV × AV)} {es:List MapEntry} (b:MapRel c l es) (h:jV kk l=true):∀e∈es,∃m,e.key= .int kk m:=λe j=>by
 obtain ⟨i,g⟩:=List.mem_iff_getElem?.1 j
 have d:i<l.length:=by rw[xb b];exact (List.getElem?_eq_some_iff.1 g).1
 obtain ⟨k,a,f,_⟩:=jK b i _ (List.getElem?_eq_getElem d)
 rw[g] at a
 injection a with a
 subst a
 have:=qQ.1 h l[i] (List.getElem_mem d)
 rw[this] at f
 exact ⟨_,f⟩
theorem J8 {z:AV}:∀ {es:List (AV × AV)},(∀p∈es,jJ p≠n)->yx n z es=(z,false)
 | [],_=>rfl
 | p::r,h=>by
   have b:=J8 (z:=z) (es:=r) λq c=>h q (by simp[c])
   have a:=h p (by simp)
   simp[yx,b,a]
theorem J9 {z:AV}:∀ {es:List (AV × AV)},(∃p∈es,jJ p=n)->∃p∈es,jJ p=n/\yx n z es=(p.2,true)
 | [],h=>by simp at h
 | p::r,h=>by
   by_cases a:jJ p=n
   ·exact ⟨p,by simp,a,by simp[yx,a]⟩
   ·obtain ⟨q,b,c⟩:=h
    rcases List.mem_cons.1 b with rfl | b
    ·exact absurd c a
    ·obtain ⟨d,f,e,g⟩:=J9 (z:=z) (es:=r) ⟨q,b,c⟩
     exact ⟨d,by simp[f],e,by simp[yx,a,g]⟩
theorem Xa {c:Ctx} {M K mt:TypeId} {es:Array MapEntry} {k:Nat} {l l':List (AV × AV)} {b:Nat} {kk':IntKind} {z:Value} {C:AV} (U:P.underlying mt=some (.map M K)) (F:P.underlying M=some (.int kk')) (S:w.heap[b]? =some (.map es k)) (H:l'.Perm l) (D:MapRel c l' es.toList) (X:(es.toList.map (·.key)).Nodup)
  (m:jV kk l=true) (R:(zeroValue K).run P w= .ok z w) (B:AR c C z) (ok:Bool):
  ∃u,(Instr.lookup mt (.map (some b)) (.int kk n) ok).run P w= .ok u w/\AR c (if ok then .tup [(yx n C l).1,.v (.bool (yx n C l).2)] else (yx n C l).1) u:=by
 have y:=Ji H m
 have O:∀ {β:Type} (f:Obj->Sem β),(Sem.getObj b f).run P w=(f (.map es k)).run P w:=λf=>by simp[Sem.run,S]
 have o:∀(r:Option (Nat × Value)) (q:Value) (t:Bool),Instr.findNow (.int kk') (.int kk n) es.toList 0=some r->(match r with | some (_,v)=>(pure (v,true):Sem (Value × Bool)) | none=>do pure (<-zeroValue K,false)).run P w= .ok (q,t) w->
   (Instr.lookup mt (.map (some b)) (.int kk n) ok).run P w= .ok (if ok then .tuple #[q,.bool t] else q) w:=λr q t Y s=>by
  have I:∀d,(Instr.checkKey es.isEmpty (d+1) M (.int kk n)).run P w= .ok () w:=λd=>by simp[Instr.checkKey,run_underlying F]
  have W:(getObj b).run P w= .ok (.map es k) w:=by simp[getObj,Sem.run,S]
  simp only[Instr.lookup,Sem.run_bind,run_underlying U,Result.andThen_ok,W,Sem.run_pure,I,Instr.findKey,run_underlying F,Y]
  cases r with
  | some p=>obtain ⟨i,v⟩:=p;simp only[Sem.run_pure] at s ⊢;injection s with s _;injection s with h x;subst h x;cases ok<;>simp
  | none=>simp only[Sem.run_bind,R,Result.andThen_ok,Sem.run_pure] at s ⊢;injection s with s _;injection s with h x;subst h x;cases ok<;>simp
 rcases ZK (kk':=kk') es.toList 0 (Wu D y) (n:=n) with ⟨h,x⟩ | ⟨j,e,h,x,V⟩
 ·have N:∀p∈l,jJ p≠n:=λp E e=>by
   obtain ⟨i,L⟩:=List.mem_iff_getElem?.1 (H.mem_iff.2 E)
   obtain ⟨G,g,a,_⟩:=jK D i p L
   have:=qQ.1 m p E
   rw[this,e] at a
   exact h G (List.mem_of_getElem? g) a
  refine ⟨_,o none z false x (by simp[R]),?_⟩
  rw[J8 N]
  cases ok
  ·exact B
  ·exact ⟨_,rfl,_,_,rfl,B,_,_,rfl,rfl,rfl⟩
 ·have A:j<l'.length:=by rw[xb D];exact (List.getElem?_eq_some_iff.1 h).1
  have hex:∃p∈l,jJ p=n:=by
   obtain ⟨G,g,a,_⟩:=jK D j _ (List.getElem?_eq_getElem A)
   rw[h] at g
   injection g with g
   subst g
   have Q:=H.mem_iff.1 (List.getElem_mem A)
   have:=qQ.1 m _ Q
   rw[this] at a
   have a:e.key= .int kk _:=a
   rw[x] at a
   injection a with _ a
   exact ⟨_,Q,a.symm⟩
  obtain ⟨p,p1,p2,Z⟩:=J9 (z:=C) hex
  obtain ⟨i,L⟩:=List.mem_iff_getElem?.1 (H.mem_iff.2 p1)
  obtain ⟨G,g,a,T⟩:=jK D i p L
  have:=qQ.1 m p p1
  rw[this,p2] at a
  have a:G.key= .int kk n:=a
  have J:=KN X g h (a.trans x.symm)
  subst J
  rw[h] at g
  injection g with g
  subst g
  refine ⟨_,o (some (0+i,e.val)) e.val true V (by simp),?_⟩
  rw[Z]
  cases ok
  ·exact T
  ·exact ⟨_,rfl,_,_,rfl,T,_,_,rfl,rfl,rfl⟩
theorem Y6 (V:HOk B w g h) (hB:B<=w.heap.size) {W et mt:TypeId} {id:Nat} {l l2:List (AV × AV)} {kk':IntKind} {u:Value} (hu:P.underlying mt=some (.map W et)) (G:P.underlying W=some (.int kk')) (T:h[id]? =some (.mapo l)) (hv:AR (ctx w g h) v u) (x:yB kk n v l=some l2):
  ∃w',(Instr.mapUpdate mt (.map (some (g.β id))) (.int kk n) u).run P w= .ok () w'/\Good B w g h w' g (h.set id (.mapo l2)):=by
 obtain ⟨h1,es,k,l',R,s,y,Y⟩:=V.ok id _ T
 have R:w.heap[g.β id]? =some (.map es k):=R
 unfold yB at x
 split at x
 case isFalse=>cases x
 rename_i E
 injection x with x
 have A:=Ji s E
 have K:∀d,(Instr.checkKey false (d+1) W (.int kk n)).run P w= .ok () w:=λd=>by simp[Instr.checkKey,run_underlying G]
 have hg:(getObj (g.β id)).run P w= .ok (.map es k) w:=by simp[getObj,Sem.run,R]
 have D:∀o,(setObj (g.β id) o).run P w= .ok () { w with heap:=w.heap.setIfInBounds (g.β id) o }:=λo=>by simp[setObj,Sem.run,R]
 rcases ZK (kk':=kk') es.toList 0 (Wu y A) (n:=n) with ⟨C,F⟩ | ⟨j,e,C,F,f3⟩
 ·have X:jy n l=false:=by
   rw[Bool.eq_false_iff]
   intro hc
   obtain ⟨p,L,e⟩:=ZJ.1 hc
   obtain ⟨i,O⟩:=List.mem_iff_getElem?.1 (s.mem_iff.2 L)
   obtain ⟨N,r,f,_⟩:=jK y i p O
   have:=qQ.1 E p L
   rw[this,e] at f
   exact C N (List.mem_of_getElem? r) f
  rw[X] at x
  simp only[Bool.false_eq_true,if_false] at x
  subst x
  refine ⟨_,?_,Wh V hB T (es':=es.push { key:= .int kk n,val:=u,born:=k }) (k':=k+1) (l2:=l'++[(.v (.int kk n),v)]) ?_ ?_ ?_⟩
  ·simp only[Instr.mapUpdate,Sem.run_bind,run_underlying hu,Result.andThen_ok,hg,K,Instr.findKey,run_underlying G,F,Sem.run_pure,D]
  ·refine (List.perm_append_comm).trans (List.Perm.trans ?_ (wj l).symm)
   exact s.cons _
  ·rw[Array.toList_push]
   refine QJ (by simp[xb y]) λi p e s m=>?_
   by_cases O:i<l'.length
   ·rw[List.getElem?_append_left O] at s
    rw[List.getElem?_append_left (by rw[<-xb y];exact O)] at m
    obtain ⟨N,r,f,Z⟩:=jK y i p s
    rw[m] at r;injection r with r;subst r
    exact ⟨f,Z⟩
   ·have hl:=xb y
    rw[List.getElem?_append_right (by omega)] at s m
    rw[<-hl] at m
    have h0:i - l'.length=0:=by
     have:=(List.getElem?_eq_some_iff.1 s).1
     simp at this;omega
    rw[h0] at s m
    injection s with s;injection m with m
    subst s m
    exact ⟨rfl,hv⟩
  ·rw[Array.toList_push,List.map_append,List.nodup_append]
   refine ⟨Y,by simp,λa ha b hb=>?_⟩
   simp at hb
   obtain ⟨e,m,rfl⟩:=List.mem_map.1 ha
   rw[hb]
   exact C e m
 ·have H:j<l'.length:=by rw[xb y];exact (List.getElem?_eq_some_iff.1 C).1
  have I:jy n l=true:=by
   rw[ZJ]
   obtain ⟨N,r,f,_⟩:=jK y j _ (List.getElem?_eq_getElem H)
   rw[C] at r
   injection r with r
   subst r
   have hm:=s.mem_iff.1 (List.getElem_mem H)
   have:=qQ.1 E _ hm
   rw[this] at f
   have f:e.key= .int kk _:=f
   rw[F] at f
   injection f with _ f
   exact ⟨_,hm,f.symm⟩
  rw[I] at x
  simp only[if_true] at x
  subst x
  have M:es[j]? =some e:=by simpa using C
  refine ⟨_,?_,Wh V hB T (es':=es.modify j λe=>{ e with key:= .int kk n,val:=u }) (k':=k) (l2:=qV kk n v l') ?_ ?_ ?_⟩
  ·have U:(Instr.keyThatStays e.key (.int kk n)).run P w= .ok (.int kk n) w:=by simp[Instr.keyThatStays,F,Instr.sameBits]
   rw[Nat.zero_add] at f3
   simp only[Instr.mapUpdate,Sem.run_bind,run_underlying hu,Result.andThen_ok,hg,K,Instr.findKey,run_underlying G,f3,Sem.run_pure,M,Option.map_some,Option.getD_some,U,D]
  ·rw[kr,kr]
   exact s.map _
  ·refine QJ (by simp[kr,xb y]) λi p N c m=>?_
   rw[kr,List.getElem?_map] at c
   cases z:l'[i]? with
   | none=>rw[z] at c;cases c
   | some q=>
     rw[z] at c
     injection c with c
     obtain ⟨e2,r,f,Z⟩:=jK y i q z
     have J:=qQ.1 A q (List.mem_of_getElem? z)
     rw[J] at f
     have f:e2.key= .int kk (jJ q):=f
     rw[Array.getElem?_toList,Array.getElem?_modify] at m
     have α:es[i]? =some e2:=by simpa using r
     rw[α] at m
     by_cases Q:jJ q=n
     ·rw[Q] at f
      have t:=KN Y r C (f.trans F.symm)
      subst t
      have c:(if jJ q=n then ((.v (.int kk n),v):AV × AV) else q)=p:=c
      rw[if_pos Q] at c
      subst c
      simp only[if_true,Option.map_some] at m
      injection m with m
      subst m
      exact ⟨rfl,hv⟩
     ·have t:j≠i:=λS=>by
       subst S
       rw[C] at r
       injection r with r
       subst r
       rw[F] at f
       injection f with _ f
       exact Q f.symm
      have c:(if jJ q=n then ((.v (.int kk n),v):AV × AV) else q)=p:=c
      rw[if_neg Q] at c
      subst c
      rw[if_neg t] at m
      injection m with m
      subst m
      exact ⟨by rw[J];exact f,Z⟩
  ·have:(es.modify j λe=>{ e with key:= .int kk n,val:=u }).toList.map (·.key)=es.toList.map (·.key):=by
    apply List.ext_getElem?
    intro i
    rw[List.getElem?_map,List.getElem?_map,Array.getElem?_toList,Array.getElem?_modify,Array.getElem?_toList]
    by_cases t:j=i
    ·subst t;rw[M];simp[F]
    ·rw[if_neg t]
   rw[this]
   exact Y
theorem xGa {c:Ctx} {t:TypeId} {z:AV} (b:qsa (zi P t)=some z):∃u,(zeroValue t).run P w= .ok u w/\AR c z u:=by
 unfold qsa at b
 split at b
 ·rename_i g
  cases a:(zi P t).zero with
  | none=>rw[a] at b;cases b
  | some j=>
    rw[a] at b
    simp only[Option.bind_some] at b
    obtain ⟨d,i,l,k,e⟩:=qd (VE a)
    rw[e] at a g
    cases f:i.zero with
    | none=>rw[f] at a;cases a
    | some v=>
      rw[f] at a g
      injection a with a
      have h:v.cells= #[v]:=by
       have g:v.oneCell'=true:=g
       cases v<;>first | rfl | cases g
      have a:v.cells.toList=j:=a
      rw[h] at a
      subst a
      injection b with b
      subst b
      exact ⟨v,J5 k f,rfl⟩
 ·cases b
theorem Wv {c:Ctx} {t:TypeId} (n:(zi P t).ok=true) {h:List AV} {vs:Array Value} (m:ARs c h vs.toList) {k:Nat} {x:AV} (a:part h k (zi P t).agg (zi P t).sz=some x):∃u,(_root_.Go.part t vs k).run P w= .ok u w/\AR c x u:=by
 obtain ⟨d,i,y,s,e⟩:=qd n
 rw[e] at a
 have f:(isAgg t).run P w= .ok (qqa d) w:=by
  simp only[isAgg,Sem.run_bind,run_underlying y,Result.andThen_ok]
  cases d<;>rfl
 simp only[part] at a
 split at a
 ·rename_i l
  cases b:cut h k i.size with
  | none=>rw[b] at a;cases a
  | some rs=>
    rw[b] at a
    injection a with a
    subst a
    obtain ⟨q,r,z⟩:=Vy m k _ b
    refine ⟨.agg (vs.extract k (k+i.size)),?_,_,rfl,?_⟩
    ·have g:k+i.size<=vs.size:=by simpa using r
     simp[_root_.Go.part,f,l,sizeOf,typeInfo,s,g]
    ·simpa [Array.toList_extract,List.extract_eq_take_drop] using q
 ·rename_i l
  split at a
  ·rename_i v
   injection a with a
   subst a
   obtain ⟨u,o,p⟩:=kL m k v
   refine ⟨u,?_,p⟩
   have j:vs[k]? =some u:=by simpa using o
   simp[_root_.Go.part,f,l,j]
  ·cases a
end
section
variable {B:Nat} {w:World} {g:Gh} {h h':List Ob} {P:Program} {x:AV} {T:Nat->AV} {a:Act}
theorem KO:∀ {rows:List (List AV)} {l:List UInt8},VC rows=some l->∃ns:List Int,rows=ns.map (λn=>[AV.v (.int .u8 n)])/\l=ns.map λn=>UInt8.ofNat n.toNat
 | [],l,h=>by
   injection h with h
   exact ⟨[],rfl,h.symm⟩
 | r::rows,l,h=>by
   unfold VC at h
   split at h
   ·rename_i e;cases e
   ·rename_i n d e
    injection e with e1 e2
    subst e2
    cases a:VC rows with
    | none=>rw[a] at h;cases h
    | some l'=>
      rw[a] at h
      injection h with h
      obtain ⟨ns,b,c⟩:=KO a
      exact ⟨n::ns,by rw[e1,b];rfl,by rw[<-h,c];rfl⟩
   ·cases h
theorem jda (l:List Int):∀s:ByteArray,l.foldl (λr n=>r.push (UInt8.ofNat n.toNat)) s=⟨s.data++(l.map λn=>UInt8.ofNat n.toNat).toArray⟩:=by
 induction l with
 | nil=>intro s;simp
 | cons x l a=>
   intro s
   simp only[List.map_cons,List.foldl_cons]
   rw[a]
   simp[ByteArray.push]
theorem xHa (V:HOk B w g h) {s d:TypeId} {rows:List (List AV)} {v:Value} {z:AV} (X:AR (ctx w g h) (.sl 1 rows) v) (Y:(zi P s).ok=true) (I:(zi P d).kind= .str) (c:xDa P s rows=some z):
  ∃u,(convert s d v).run P w= .ok u w/\AR (ctx w g h) z u:=by
 obtain ⟨A,k,S,h2,p,_⟩:=xz V (.sl 1 rows) X rfl
 have p:=p 1 rfl
 unfold xDa at c
 split at c
 ·rename_i e o
  split at c
  ·rename_i a
   cases G:VC rows with
   | none=>rw[G] at c;cases c
   | some l=>
     rw[G] at c
     injection c with c
     subst c
     obtain ⟨W,i1,J,T,D⟩:=qd Y
     obtain ⟨N,i2,q,Q,F⟩:=qd (qh I (by simp))
     obtain ⟨R,i3,H,O,C⟩:=qd (qh a (by simp))
     rw[D] at o
     rw[F] at I
     rw[C] at a
     cases W<;>try (cases o;done)
     cases N<;>try (cases I;done)
     cases R<;>try (cases a;done)
     injection o with o
     injection a with a
     subst o;subst a
     obtain ⟨ns,r,y⟩:=KO G
     refine ⟨.string ⟨l.toArray⟩,?_,rfl⟩
     have U:∀i,A=some i->∀j u,(ns.map (Value.int .u8))[j]? =some u->w.cell? (i.add j)=some u:=λi Z j u f=>by
      rw[List.getElem?_map] at f
      cases t:ns[j]? with
      | none=>rw[t] at f;cases f
      | some n=>
        rw[t] at f
        injection f with f
        subst f
        obtain ⟨x,L,m,M,K⟩:=p.cell j 0 [.v (.int .u8 n)] (.v (.int .u8 n)) (by rw[r,List.getElem?_map,t];rfl) rfl
        rw[Z] at m
        injection m with m
        subst m
        rw[Nat.mul_one,Nat.add_zero] at M
        have K:L= .int .u8 n:=K
        rw[M,K]
     have E:rows.length=ns.length:=by rw[r,List.length_map]
     rw[S,run_convert_bytes_string w s d _ A rows.length k J H q]
     cases A with
     | none=>
       have h0:ns=[]:=by
        cases ns with
        | nil=>rfl
        | cons n ns=>
          obtain ⟨x,L,m,_⟩:=p.cell 0 0 [.v (.int .u8 n)] (.v (.int .u8 n)) (by rw[r];rfl) rfl
          cases m
       rw[h0] at E y
       rw[E,y]
       rfl
     | some i=>
       have b:=run_loadCells_list (P:=P) w i (ns.map (Value.int .u8)) (U i rfl)
       rw[List.length_map] at b
       rw[E,run_bytesToString w i ns.length k ns b,jda,y]
       simp
  ·cases c
 ·cases c
theorem qwa {c:Ctx}:∀ {aZ:List AV} {y:AV} {vs:List Value} {v:Value},ARs c aZ vs->AR c y v->∀ {r:AV},Wk y aZ=some r->∃u,(vs.foldlM Builtin.max2 v).run P w= .ok u w/\AR c r u
 | [],y,vs,v,e,a,r,h=>by
   have e:vs=[]:=e
   subst e
   have h:some y=some r:=by rw[<-h];unfold Wk;rfl
   injection h with h;subst h
   exact ⟨v,rfl,a⟩
 | z::aZ,y,vs,v,⟨u,q,i,b,d⟩,a,r,h=>by
   subst i
   unfold Wk at h
   split at h
   ·rename_i heq;cases heq
   ·rename_i k p k' n j heq
    injection heq with h4 h5
    subst h4 h5
    have a:v= .int k p:=a
    have b:u= .int k' n:=b
    subst a b
    obtain ⟨u,g,f⟩:=qwa (y:= .v (.int k (if n>p then n else p))) d rfl h
    exact ⟨u,by simpa [List.foldlM_cons,Builtin.max2] using g,f⟩
   ·cases h
theorem qxa {c:Ctx}:∀ {aZ:List AV} {y:AV} {vs:List Value} {v:Value},ARs c aZ vs->AR c y v->∀ {r:AV},Wl y aZ=some r->∃u,(vs.foldlM Builtin.min2 v).run P w= .ok u w/\AR c r u
 | [],y,vs,v,e,a,r,h=>by
   have e:vs=[]:=e
   subst e
   have h:some y=some r:=by rw[<-h];unfold Wl;rfl
   injection h with h;subst h
   exact ⟨v,rfl,a⟩
 | z::aZ,y,vs,v,⟨u,q,i,b,d⟩,a,r,h=>by
   subst i
   unfold Wl at h
   split at h
   ·rename_i heq;cases heq
   ·rename_i k p k' n j heq
    injection heq with h4 h5
    subst h4 h5
    have a:v= .int k p:=a
    have b:u= .int k' n:=b
    subst a b
    obtain ⟨u,g,f⟩:=qxa (y:= .v (.int k (if n<p then n else p))) d rfl h
    exact ⟨u,by simpa [List.foldlM_cons,Builtin.min2] using g,f⟩
   ·cases h
theorem xIa (F:HOk B w g h) (hB:B<=w.heap.size) (o:kW (ctx w g h) T a) {c:Call} {ty:TypeId} (f:wA P T h c=some (x,h')):
  Did P (do let d<-resolve a.eval c ty;invoke d.target d.args) B w g h x h':=by
 obtain ⟨callee,args,argTypes⟩:=c
 obtain ⟨args⟩:=args
 obtain ⟨argTypes⟩:=argTypes
 unfold wA at f
 split at f
 ·rename_i X t l b j
  simp only at l b j
  subst l b j
  split at f
  ·rename_i e s
   cases m:zo h (ev T X) with
   | none=>rw[m] at f;cases f
   | some xs=>
     rw[m] at f
     injection f with f
     injection f with hx1 hx2
     subst hx1 hx2
     obtain ⟨d,i,U,O,eq⟩:=qd (qh s (by simp))
     rw[eq] at s
     cases d<;>try (cases s;done)
     obtain ⟨A,k,p,C,_,_⟩:=xz F _ (qy o X) m
     refine ⟨.value (.int .i64 xs.length),_,w,g,?_,.inl rfl,Good.refl F hB,rfl⟩
     simp[resolve,invoke,builtin,Builtin.len_,p,run_underlying U,goInt]
  ·cases f
 ·rename_i S X t W l b j
  simp only at l b j
  subst l b j
  split at f
  ·rename_i e s
   split at f
   ·rename_i J
    subst J
    obtain ⟨v,w',g',R,L,V⟩:=Y5 (ty:=ty) F hB (qy o S) (qy o X) s f
    refine ⟨.value v,v,w',g',?_,.inl rfl,L,V⟩
    simp[resolve,invoke,builtin,R]
   ·cases f
  ·cases f
 ·rename_i X t l b j
  simp only at l b j
  subst l b j
  split at f
  ·rename_i e s
   cases G:jI h (ev T X) with
   | none=>rw[G] at f;cases f
   | some q=>
     obtain ⟨id,st,i,n⟩:=q
     rw[G] at f
     simp only[Option.bind_some] at f
     cases I:(zi P e).zero with
     | none=>rw[I] at f;cases f
     | some z=>
       rw[I] at f
       simp only[Option.bind_some] at f
       split at f
       ·rename_i H
        cases m:jZ h id i e (zi P e).sz (List.replicate n (z.map .v)) with
        | none=>rw[m] at f;cases f
        | some L=>
          rw[m] at f
          injection f with f
          injection f with hx1 hx2
          subst hx1 hx2
          obtain ⟨w',g',p,C⟩:=jba (P:=P) (ty:=ty) F hB (qy o X) s G I H.1 H.2 m
          refine ⟨.value (.tuple #[]),.tuple #[],w',g',?_,.inl rfl,C,⟨_,rfl,rfl⟩⟩
          simp[resolve,invoke,builtin,p]
       ·cases f
  ·cases f
 ·rename_i D X t W l b j
  simp only at l b j
  subst l b j
  split at f
  ·rename_i e s
   split at f
   ·rename_i H
    obtain ⟨J,N,Q⟩:=H
    subst J
    cases G:jI h (ev T D) with
    | none=>rw[G] at f;cases f
    | some q=>
      obtain ⟨id,st,i,n⟩:=q
      rw[G] at f
      simp only[Option.bind_some] at f
      cases K:zo h (ev T X) with
      | none=>rw[K] at f;cases f
      | some ys=>
        rw[K] at f
        simp only[Option.bind_some] at f
        cases m:jZ h id i e (zi P e).sz (ys.take n) with
        | none=>rw[m] at f;cases f
        | some L=>
          rw[m] at f
          injection f with f
          injection f with hx1 hx2
          subst hx1 hx2
          obtain ⟨w',g',p,C⟩:=xFa (P:=P) (ty:=ty) F hB (qy o D) (qy o X) s G K N Q m
          refine ⟨.value (.int .i64 ((ys.take n).length:Nat)),_,w',g',?_,.inl rfl,C,rfl⟩
          simp only[resolve,invoke,builtin]
          simp[p]
   ·cases f
  ·cases f
 ·rename_i M X r l b
  simp only at l b
  subst l b
  cases E:Wk (ev T X) (evl T r) with
  | none=>rw[E] at f;cases f
  | some y=>
    rw[E] at f
    injection f with f
    injection f with hx1 hx2
    subst hx1 hx2
    obtain ⟨u,p,C⟩:=qwa (P:=P) (w:=w) (ZH o r) (qy o X) E
    refine ⟨.value u,u,w,g,?_,.inl rfl,Good.refl F hB,C⟩
    simp[resolve,invoke,builtin,Builtin.max_,p]
 ·rename_i M X r l b
  simp only at l b
  subst l b
  cases E:Wl (ev T X) (evl T r) with
  | none=>rw[E] at f;cases f
  | some y=>
    rw[E] at f
    injection f with f
    injection f with hx1 hx2
    subst hx1 hx2
    obtain ⟨u,p,C⟩:=qxa (P:=P) (w:=w) (ZH o r) (qy o X) E
    refine ⟨.value u,u,w,g,?_,.inl rfl,Good.refl F hB,C⟩
    simp[resolve,invoke,builtin,Builtin.min_,p]
 ·cases f
theorem DidV.of {s:Sem Value} {t:Sem Next} (d:DidV P s B w g h x h') (e:t=(do pure (.value (<-s)))):Did P t B w g h x h':=e▸d.did
theorem qt {s:Sem Next} {v:Value} (c:HOk B w g h) (hB:B<=w.heap.size) (b:s.run P w= .ok (.value v) w) (a:AR (ctx w g h) x v):Did P s B w g h x h:=
 ⟨.value v,v,w,g,b,.inl rfl,Good.refl c hB,a⟩
theorem VG (H:HOk B w g h) (hB:B<=w.heap.size) (G:kW (ctx w g h) T a) (o:Oper) (C:zn P T h o.op=some (x,h')):Did P (execOp a.eval o) B w g h x h':=by
 obtain ⟨dst,op,type,pos,after,guard⟩:=o
 simp only at C
 have alloc:(qo P T op).map (λq=>(q.2 h.length,h++[q.1]))=some (x,h')->Did P (execOp a.eval ⟨dst,op,type,pos,after,guard⟩) B w g h x h':=λC=>by
  cases ha:qo P T op with
  | none=>rw[ha] at C;cases C
  | some q=>
    obtain ⟨o,mk⟩:=q
    rw[ha] at C
    injection C with C
    injection C with hx1 hx2
    subst hx1 hx2
    obtain ⟨v,w',V,m⟩:=J6 H hB G ha dst type pos after guard
    obtain ⟨g',e2,e3⟩:=m.more H hB
    exact ⟨.value v,v,w',g',V,.inl rfl,e2,e3⟩
 unfold zn at C
 split at C
 case h_1 y=>
  injection C with C;injection C with hx1 hx2;subst hx1 hx2
  exact qt H hB (by simp[execOp]) (qy G y)
 case h_2 y=>
  injection C with C;injection C with hx1 hx2;subst hx1 hx2
  exact qt H hB (by simp[execOp]) (qy G y)
 case h_3 c y z=>
  split at C
  ·rename_i t K
   injection C with C;injection C with hx1 hx2;subst hx1 hx2
   have e:=vE G K
   cases t
   ·exact qt H hB (v:=a.eval z) (by simp[execOp,e,asBool]) (qy G z)
   ·exact qt H hB (v:=a.eval y) (by simp[execOp,e,asBool]) (qy G y)
  ·cases C
 case h_4 t=>exact alloc C
 case h_5 t y=>exact alloc C
 case h_6 t n ps=>exact alloc C
 case h_7 t l c=>exact alloc C
 case h_8 t r=>exact alloc C
 case h_9 t ps=>
  split at C
  ·rename_i fs D
   split at C
   ·rename_i M
    cases hz:(zi P t).zero with
    | none=>rw[hz] at C;cases C
    | some z=>
      rw[hz] at C
      simp only[Option.bind_some] at C
      cases K:kN (ZF P fs) (z.map .v) (evs T ps.toList) with
      | none=>rw[K] at C;cases C
      | some cs=>
        rw[K] at C
        injection C with C;injection C with hx1 hx2;subst hx1 hx2
        exact (q9a H hB G D M hz K).of rfl
   ·cases C
  ·rename_i m e D
   split at C
   ·rename_i M
    cases hz:(zi P t).zero with
    | none=>rw[hz] at C;cases C
    | some z=>
      rw[hz] at C
      simp only[Option.bind_some] at C
      cases K:kN (vC (zi P e).sz) (z.map .v) (evs T ps.toList) with
      | none=>rw[K] at C;cases C
      | some cs=>
        rw[K] at C
        injection C with C;injection C with hx1 hx2;subst hx1 hx2
        exact (Kr H hB G D M hz K).of rfl
   ·cases C
  ·cases C
 case h_10 t p=>
  cases Q:yw h (zi P t) (ev T p) with
  | none=>rw[Q] at C;cases C
  | some y=>
    rw[Q] at C
    injection C with C;injection C with hx1 hx2;subst hx1 hx2
    exact (Wq H hB (qy G p) Q).of rfl
 case h_11 t p y=>
  split at C
  ·rename_i ht
   cases K:(ev T y).cells with
   | none=>rw[K] at C;cases C
   | some ns=>
     rw[K] at C
     simp only[Option.bind_some] at C
     split at C
     ·rename_i Q
      cases hs:vD h ns (ev T p) with
      | none=>rw[hs] at C;cases C
      | some h2=>
        rw[hs] at C
        injection C with C;injection C with hx1 hx2;subst hx1 hx2
        obtain ⟨w',g',V,e2⟩:=jaa H hB (qy G p) (qy G y) ht K Q hs
        exact ⟨.skip,undef,w',g',by simp[execOp,V],.inr ⟨rfl,rfl⟩,e2,rfl⟩
     ·cases C
  ·cases C
 case h_12 y=>
  have E:=qy G y
  split at C
  ·rename_i id off J
   injection C with C;injection C with hx1 hx2;subst hx1 hx2
   rw[J] at E
   obtain ⟨q,e⟩:=E
   exact qt H hB (v:=a.eval y) (by simp[execOp,e]) ⟨q,e⟩
  ·rename_i c e i k J
   injection C with C;injection C with hx1 hx2;subst hx1 hx2
   rw[J] at E
   obtain ⟨A,m,cp,q1,q2,e⟩:=E
   exact qt H hB (v:=a.eval y) (by simp[execOp,e]) ⟨A,m,cp,q1,q2,e⟩
  ·rename_i f p q J
   injection C with C;injection C with hx1 hx2;subst hx1 hx2
   rw[J] at E
   obtain ⟨us,vs,e,q⟩:=E
   exact qt H hB (v:=a.eval y) (by simp[execOp,e]) ⟨us,vs,e,q⟩
  ·cases C
 case h_13 op t y z _=>
  split at C
  ·rename_i hn
   cases hb:Wm P h op t (ev T y) with
   | none=>rw[hb] at C;cases C
   | some r=>
     rw[hb] at C
     injection C with C;injection C with hx1 hx2;subst hx1 hx2
     exact (vZa H hB G hn hb).of rfl
  ·cases hb:xCa P op t (ev T y) (ev T z) with
   | none=>rw[hb] at C;cases C
   | some r=>
     rw[hb] at C
     injection C with C;injection C with hx1 hx2;subst hx1 hx2
     exact (vYa H hB G hb).of rfl
 case h_14 op _ y=>
  split at C
  ·rename_i k n J
   injection C with C;injection C with hx1 hx2;subst hx1 hx2
   have e:=vE G J
   exact qt H hB (by simp[execOp,e,Op.unary,Op.intArith]) rfl
  ·rename_i b J
   injection C with C;injection C with hx1 hx2;subst hx1 hx2
   have e:=vE G J
   exact qt H hB (by simp[execOp,e,Op.unary]) rfl
  ·cases C
 case h_15 s d y=>
  split at C
  ·rename_i k k' n hs hd J
   injection C with C;injection C with hx1 hx2;subst hx1 hx2
   have e:=vE G J
   obtain ⟨d1,i1,hu1,hi1,eq1⟩:=qd hs
   obtain ⟨d2,Z,O,N,I⟩:=qd (qh hd (by simp))
   rw[I] at hd
   cases d2<;>try (cases hd;done)
   injection hd with hd
   subst hd
   refine qt H hB (v:= .int _ (IntKind.wrap _ n)) ?_ rfl
   simp[execOp,e,convert,run_underlying hu1,run_underlying O,Conv.intToInt]
  ·rename_i rows hs hd J
   cases ξ:xDa P s rows with
   | none=>rw[ξ] at C;cases C
   | some z=>
     rw[ξ] at C
     injection C with C;injection C with hx1 hx2;subst hx1 hx2
     have E:=qy G y
     rw[J] at E
     obtain ⟨u,hr,eu⟩:=xHa H E hs hd ξ
     exact qt H hB (v:=u) (by simp[execOp,hr]) eu
  ·cases C
 case h_16 f p q=>
  injection C with C;injection C with hx1 hx2;subst hx1 hx2
  refine qt H hB (v:= .func f (p.map a.eval) (q.map a.eval)) (by simp[execOp,Instr.makeFunc]) ⟨_,_,rfl,?_,?_⟩
  ·simpa using ZH G p.toList
  ·simpa using ZH G q.toList
 case h_17 t y i=>
  have E:=qy G y
  split at C
  ·rename_i fs D
   cases M:fs[i]? with
   | none=>rw[M] at C;cases C
   | some f=>
     rw[M] at C
     simp only[Option.bind_some] at C
     split at C
     ·rename_i K
      obtain ⟨d,ii,R,X,eq⟩:=qd (qh D (by simp))
      rw[eq] at D
      cases d<;>try (cases D;done)
      rename_i fields
      injection D with D
      obtain ⟨d2,Z,O,N,I⟩:=qd K.1
      have ζ:Z.size≠0:=by have:=K.2;rw[I] at this;simp at this;omega
      rw[<-D,List.getElem?_map] at M
      cases U:fields.toList[i]? with
      | none=>rw[U] at M;cases M
      | some F=>
        rw[U] at M
        injection M with M
        subst M
        have W:fields[i]? =some F:=by simpa using U
        split at C
        ·rename_i id off J
         injection C with C;injection C with hx1 hx2;subst hx1 hx2
         rw[J] at E
         obtain ⟨q,e⟩:=E
         refine qt H hB (v:= .pointer (some ⟨g.β id,off+F.offset,none⟩)) ?_ ⟨q,rfl⟩
         simp[execOp,e,Instr.fieldAt,run_underlying R,W,Instr.sureAddr,fieldPlace,sizeOf,typeInfo,N,ζ,Addr.add_lit,ctx]
        ·rename_i c e' j k J
         injection C with C;injection C with hx1 hx2;subst hx1 hx2
         rw[J] at E
         obtain ⟨A,m,cp,q1,q2,e⟩:=E
         refine qt H hB (v:= .pointer (some (A.add (j*e'+(k+F.offset))))) ?_ ⟨A,m,cp,q1,q2,rfl⟩
         simp[execOp,e,Instr.fieldAt,run_underlying R,W,Instr.sureAddr,fieldPlace,sizeOf,typeInfo,N,ζ,Addr.add_add,Nat.add_assoc]
        ·cases C
     ·cases C
  ·cases C
 case h_19 t y i=>
  have E:=qy G y
  split at C
  ·rename_i e k n D J
   split at C
   ·rename_i K
    have V:=vE G J
    obtain ⟨d,ii,R,X,eq⟩:=qd (qh D (by simp))
    rw[eq] at D
    cases d<;>try (cases D;done)
    injection D with D
    subst D
    obtain ⟨d2,Z,O,N,I⟩:=qd K.1
    cases L:YY h n (ev T y) with
    | none=>rw[L] at C;cases C
    | some z=>
      rw[L] at C
      injection C with C;injection C with hx1 hx2;subst hx1 hx2
      unfold YY at L
      cases hr:zo h (ev T y) with
      | none=>rw[hr] at L;cases L
      | some xs=>
        rw[hr,K.2.2] at L
        simp only[Option.bind_some] at L
        split at L
        ·rename_i hn
         injection L with L
         subst L
         obtain ⟨A,cp,q1,q2,q3,_⟩:=xz H _ E hr
         have hra:=q3 _ K.2.2
         have σ:n.toNat<xs.length:=by omega
         have hA:∃ad,A=some ad:=by
          have hrow:xs[n.toNat]? =some xs[n.toNat]:=List.getElem?_eq_getElem σ
          have h0:=K.2.1
          have Q:=hra.len _ (List.getElem_mem σ)
          obtain ⟨ad,u,z1,_⟩:=hra.cell _ 0 _ (nth xs[n.toNat] 0) hrow (wg (by omega))
          exact ⟨ad,z1⟩
         obtain ⟨ad,rfl⟩:=hA
         refine qt H hB (v:= .pointer (some (ad.add (n.toNat*Z.size)))) ?_ ⟨ad,xs.length,cp,by rw[<-q1];exact E,σ,by rw[I,Nat.add_zero]⟩
         simp[execOp,V,q1,Instr.indexAt,asIntOf,run_underlying R,sizeOf,typeInfo,N,hn.1,hn.2]
        ·cases L
   ·cases C
  ·rename_i m e k n D J
   split at C
   ·rename_i K
    obtain ⟨c1,c2,c3⟩:=K
    have V:=vE G J
    obtain ⟨d,ii,R,X,eq⟩:=qd (qh D (by simp))
    rw[eq] at D
    cases d<;>try (cases D;done)
    injection D with hk1 hk2
    subst hk1 hk2
    obtain ⟨d2,Z,O,N,I⟩:=qd c1
    split at C
    ·rename_i id off υ
     injection C with C;injection C with hx1 hx2;subst hx1 hx2
     rw[υ] at E
     obtain ⟨q,e⟩:=E
     refine qt H hB (v:= .pointer (some ⟨g.β id,off+n.toNat*Z.size,none⟩)) ?_ ⟨q,by rw[I];rfl⟩
     simp[execOp,V,e,Instr.indexAt,asIntOf,run_underlying R,Instr.sureAddr,sizeOf,typeInfo,N,c2,c3,Addr.add_lit,ctx]
    ·rename_i c e' j k2 υ
     injection C with C;injection C with hx1 hx2;subst hx1 hx2
     rw[υ] at E
     obtain ⟨A,m',cp,q1,q2,e⟩:=E
     refine qt H hB (v:= .pointer (some (A.add (j*e'+(k2+n.toNat*Z.size))))) ?_ ⟨A,m',cp,q1,q2,by rw[I]⟩
     simp[execOp,V,e,Instr.indexAt,asIntOf,run_underlying R,Instr.sureAddr,sizeOf,typeInfo,N,c2,c3,Addr.add_add,Nat.add_assoc]
    ·cases C
   ·cases C
  ·cases C
 case h_18 t y i=>
  have E:=qy G y
  split at C
  ·rename_i fs cs D J
   cases M:fs[i]? with
   | none=>rw[M] at C;cases C
   | some f=>
     rw[M] at C
     simp only[Option.bind_some] at C
     split at C
     ·rename_i ho
      obtain ⟨d,ii,R,X,eq⟩:=qd (qh D (by simp))
      rw[eq] at D
      cases d<;>try (cases D;done)
      rename_i fields
      injection D with D
      rw[<-D,List.getElem?_map] at M
      cases U:fields.toList[i]? with
      | none=>rw[U] at M;cases M
      | some F=>
        rw[U] at M
        injection M with M
        subst M
        have W:fields[i]? =some F:=by simpa using U
        rw[J] at E
        obtain ⟨vs,e,q⟩:=E
        cases hp:part cs F.offset (zi P F.type).agg (zi P F.type).sz with
        | none=>rw[hp] at C;cases C
        | some r=>
          rw[hp] at C
          injection C with C;injection C with hx1 hx2;subst hx1 hx2
          obtain ⟨u,z1,z2⟩:=Wv (P:=P) (w:=w) ho q hp
          exact qt H hB (v:=u) (by simp[execOp,e,Instr.field,run_underlying R,W,asAgg,z1]) z2
     ·cases C
  ·cases C
 case h_20 t y i=>
  have E:=qy G y
  split at C
  ·rename_i m e cs k n D J hi
   split at C
   ·rename_i K
    obtain ⟨c1,c2,c3⟩:=K
    have V:=vE G hi
    obtain ⟨d,ii,R,X,eq⟩:=qd (qh D (by simp))
    rw[eq] at D
    cases d<;>try (cases D;done)
    injection D with hk1 hk2
    subst hk1 hk2
    rename_i m e
    obtain ⟨d2,Z,O,N,I⟩:=qd c1
    rw[J] at E
    obtain ⟨vs,ee,q⟩:=E
    cases hp:part cs (n.toNat*(zi P e).sz) (zi P e).agg (zi P e).sz with
    | none=>rw[hp] at C;cases C
    | some r=>
      rw[hp] at C
      injection C with C;injection C with hx1 hx2;subst hx1 hx2
      obtain ⟨u,z1,z2⟩:=Wv (P:=P) (w:=w) c1 q hp
      have ζ:(zi P e).sz=Z.size:=by rw[I]
      rw[ζ] at z1
      exact qt H hB (v:=u) (by simp[execOp,V,ee,Instr.index,asIntOf,run_underlying R,sizeOf,typeInfo,N,c2,c3,z1]) z2
   ·cases C
  ·cases C
 case h_21 t y lo hi=>
  split at C
  ·rename_i e D
   cases hr:zo h (ev T y) with
   | none=>rw[hr] at C;cases C
   | some xs=>
     rw[hr] at C
     simp only[Option.bind_some] at C
     cases Q:wi T 0 lo with
     | none=>rw[Q] at C;cases C
     | some l=>
       rw[Q] at C
       simp only[Option.bind_some] at C
       cases hm:wi T xs.length hi with
       | none=>rw[hm] at C;cases C
       | some m=>
         rw[hm] at C
         simp only[Option.bind_some] at C
         split at C
         ·rename_i K
          obtain ⟨c1,c2,c3,c4,c5⟩:=K
          injection C with C;injection C with hx1 hx2;subst hx1 hx2
          exact (jca H hB G D hr Q hm c1 c2 c3 c4 c5).of rfl
         ·cases C
  ·cases C
 case h_22 t m k v=>
  split at C
  ·rename_i kt et id kk n D hm Y
   split at C
   ·rename_i kk' es S ho
    split at C
    ·rename_i heq
     subst heq
     cases hi:yB kk' n (ev T v) es with
     | none=>rw[hi] at C;cases C
     | some es'=>
       rw[hi] at C
       injection C with C;injection C with hx1 hx2;subst hx1 hx2
       obtain ⟨d,ii,R,X,eq⟩:=qd (qh D (by simp))
       rw[eq] at D
       cases d<;>try (cases D;done)
       injection D with hk1 hk2
       subst hk1 hk2
       obtain ⟨d2,Z,O,hin2,I⟩:=qd (qh S (by simp))
       rw[I] at S
       cases d2<;>try (cases S;done)
       have V:=vE G Y
       have E:=qy G m
       rw[hm] at E
       obtain ⟨q,e2⟩:=E
       obtain ⟨w',r1,r2⟩:=Y6 (P:=P) H hB R O ho (qy G v) hi
       refine ⟨.skip,undef,w',g,?_,.inr ⟨rfl,rfl⟩,r2,rfl⟩
       simp only[execOp,V,e2]
       have e3:(ctx w g h).β id=g.β id:=rfl
       rw[e3,Sem.run_bind,r1]
       rfl
    ·cases C
   ·cases C
  ·cases C
 case h_23 t m k ok=>
  split at C
  ·rename_i kt et id kk n D hm Y
   split at C
   ·rename_i kk' es z S ho hz
    split at C
    ·rename_i heq
     subst heq
     cases Q:Wn kk' n z es with
     | none=>rw[Q] at C;cases C
     | some p=>
       rw[Q] at C
       injection C with C;injection C with hx1 hx2;subst hx1 hx2
       unfold Wn at Q
       split at Q
       ·rename_i hko
        injection Q with Q
        subst Q
        obtain ⟨d,ii,R,X,eq⟩:=qd (qh D (by simp))
        rw[eq] at D
        cases d<;>try (cases D;done)
        injection D with hk1 hk2
        subst hk1 hk2
        obtain ⟨d2,Z,O,hin2,I⟩:=qd (qh S (by simp))
        rw[I] at S
        cases d2<;>try (cases S;done)
        have V:=vE G Y
        have E:=qy G m
        rw[hm] at E
        obtain ⟨q,e2⟩:=E
        obtain ⟨zu,z1,z2⟩:=xGa (P:=P) (w:=w) (c:=ctx w g h) hz
        obtain ⟨p1,es0,k0,l',p2,p3,p4,p5⟩:=H.ok id _ ho
        obtain ⟨u,u1,u2⟩:=Xa (P:=P) (n:=n) (ok:=ok) R O p2 p3 p4 p5 hko z1 z2
        refine qt H hB (v:=u) ?_ u2
        simp only[execOp,V,e2,Sem.run_bind,u1]
        rfl
       ·cases Q
    ·cases C
   ·cases C
  ·cases C
 case h_24 y i=>
  have E:=qy G y
  split at C
  ·rename_i cs J
   split at C
   ·rename_i hi
    injection C with C;injection C with hx1 hx2;subst hx1 hx2
    rw[J] at E
    obtain ⟨vs,e,q⟩:=E
    obtain ⟨u,q1,q2⟩:=kL q i hi
    have q1':vs[i]? =some u:=by simpa using q1
    exact qt H hB (v:=u) (by simp[execOp,e,Instr.extract,q1']) q2
   ·cases C
  ·cases C
 case h_25 c=>exact xIa H hB G C
 case h_26=>cases C
end
section
variable {φ:Nat->Ob} {h h':List Ob} {P:Program} {x:AV} {T:Nat->AV} {i:Nat} {o:Ob}
theorem vF:∀(a:AV) {e:Nat},eOf h a=some e->eOf (fill φ h) a=some e
 | .sl _ _,_,b=>b
 | .tl id st,e,b=>by
   simp only[eOf] at b⊢
   split at b
   ·rename_i ty j ys s d
    rw[zM d rfl]
    exact b
   ·cases b
 | .vw a f i n,e,b=>by
   simp only[eOf] at b⊢
   cases c:eOf h a with
   | none=>rw[c] at b;cases b
   | some g=>rw[c] at b;rw[vF a c];exact b
 | .v _,_,b | .em,_,b | .ptr _ _,_,b | .ep _ _ _ _,_,b | .mp _,_,b | .ag _,_,b | .tup _,_,b | .fn _ _ _,_,b | .bad,_,b=>by cases b
theorem ji:∀(a:AV) {xs:List (List AV)},zo h a=some xs->zo (fill φ h) a=some xs
 | .sl _ _,_,b=>b
 | .em,_,b=>b
 | .tl id st,xs,b=>by
   simp only[zo] at b⊢
   split at b
   ·rename_i ty g ys s f
    rw[zM f rfl]
    exact b
   ·cases b
 | .vw a e i n,xs,b=>by
   simp only[zo] at b⊢
   cases c:zo h a with
   | none=>rw[c] at b;cases b
   | some ys=>
     rw[c] at b
     rw[ji a c]
     simp only[Option.bind_some] at b⊢
     split at b
     ·rename_i d
      rw[if_pos ⟨d.1,d.2.imp id (vF a)⟩]
      exact b
     ·cases b
 | .v x,xs,b=>by
   unfold zo at b⊢
   split at b
   ·rename_i heq;cases heq
   ·rename_i heq;cases heq
   ·rename_i heq;cases heq
   ·rename_i heq;cases heq;exact b
   ·rename_i heq;cases heq
   ·cases b
 | .ptr _ _,_,b | .ep _ _ _ _,_,b | .mp _,_,b | .ag _,_,b | .tup _,_,b | .fn _ _ _,_,b | .bad,_,b=>by cases b
theorem Ww (a:AV) (b:ZG h a=true):ZG (fill φ h) a=true:=by
 unfold ZG at b⊢
 rw[Bool.or_eq_true] at b⊢
 refine b.imp id λb=>?_
 cases c:zo h a with
 | none=>rw[c] at b;cases b
 | some xs=>cases d:eOf h a with
   | none=>rw[c,d] at b;cases xs<;>cases b
   | some e=>rw[c,d] at b;rw[ji a c,vF a d];exact b
theorem jea {op:BinOp} {t:TypeId} (a:AV) (b:Wm P h op t a=some x):Wm P (fill φ h) op t a=some x:=by
 unfold Wm at b⊢
 cases e:(zi P t).kind<;>rw[e] at b<;>first
  | cases b;done
  | skip
 simp only at b⊢
 cases d:yH a with
 | true=>rw[d] at b;exact b
 | false=>
   rw[d] at b
   simp only[Bool.false_eq_true,if_false] at b⊢
   split at b
   ·rename_i c
    rw[if_pos (Ww _ c)];exact b
   ·cases b
theorem Xb {τ:Ty}:∀(a:AV),yw h τ a=some x->yw (fill φ h) τ a=some x
 | .ptr id off,b=>by
   simp only[yw] at b⊢
   split at b
   ·rename_i f
    simp only[zM f rfl]
    exact b
   ·cases b
 | .ep a e i k,b=>by
   simp only[yw] at b⊢
   split at b
   ·rename_i d
    rw[if_pos ⟨d.1,vF _ d.2⟩]
    cases c:zo h a with
    | none=>rw[c] at b;cases b
    | some xs=>rw[c] at b;rw[ji _ c];exact b
   ·cases b
 | .sl _ _,b | .tl _ _,b | .em,b | .vw _ _ _ _,b | .v _,b | .mp _,b | .ag _,b | .tup _,b | .fn _ _ _,b | .bad,b=>by cases b
theorem jfa {n:Int} (a:AV) (b:YY h n a=some x):YY (fill φ h) n a=some x:=by
 unfold YY at b⊢
 cases d:zo h a with
 | none=>rw[d] at b;cases b
 | some xs=>
   rw[d] at b
   cases c:eOf h a with
   | none=>rw[c] at b;cases b
   | some e=>rw[c] at b;rw[ji a d,vF a c];exact b
theorem Wx {ns:List AV}:∀(a:AV),vD h ns a=some h'->vD (fill φ h) ns a=some (fill φ h')/\ResK h h'
 | .ptr id off,b=>by
   simp only[vD] at b⊢
   split at b
   ·rename_i ty j d
    simp only[zM d rfl]
    cases c:lay j off ns with
    | none=>rw[c] at b;cases b
    | some l=>
      rw[c] at b
      injection b with b
      subst b
      exact ⟨by rw[q9 rfl];rfl,zK d rfl⟩
   ·cases b
 | .ep (.tl id st) e i k,b=>by
   simp only[vD] at b⊢
   split at b
   ·rename_i ty n xs s d
    simp only[zM d rfl]
    split at b
    ·rename_i g
     rw[if_pos g]
     cases f:xs[i]? with
     | none=>rw[f] at b;cases b
     | some r=>
       rw[f] at b
       simp only[Option.bind_some] at b⊢
       cases c:lay r k ns with
       | none=>rw[c] at b;cases b
       | some m=>
         rw[c] at b
         injection b with b
         subst b
         exact ⟨by rw[q9 rfl];rfl,zK d rfl⟩
    ·cases b
   ·cases b
 | .ep (.sl _ _) _ _ _,b | .ep .em _ _ _,b | .ep (.vw _ _ _ _) _ _ _,b | .ep (.v _) _ _ _,b | .ep (.ptr _ _) _ _ _,b | .ep (.ep _ _ _ _) _ _ _,b | .ep (.mp _) _ _ _,b | .ep (.ag _) _ _ _,b | .ep (.tup _) _ _ _,b | .ep (.fn _ _ _) _ _ _,b | .ep .bad _ _ _,b=>by cases b
 | .sl _ _,b | .tl _ _,b | .em,b | .vw _ _ _ _,b | .v _,b | .mp _,b | .ag _,b | .tup _,b | .fn _ _ _,b | .bad,b=>by cases b
theorem VH (g:Upto φ h.length) {e:TypeId} (s y:AV) (a:wS P h e s y=some (x,h')):wS P (fill φ h) e s y=some (x,fill φ h')/\ResK h h':=by
 unfold wS at a⊢
 cases c:zo h y with
 | none=>simp[c] at a
 | some ys=>
   rw[ji y c]
   simp only[c,Option.bind_some] at a⊢
   split at a
   ·rename_i f
    rw[if_pos f]
    split at a
    ·split at a
     ·rename_i id st ty i xs s d
      simp only[zM d rfl]
      split at a
      ·rename_i b
       rw[if_pos b]
       injection a with a
       injection a with h1 h2
       subst h1 h2
       exact ⟨by rw[q9 rfl],zK d rfl⟩
      ·cases a
     ·cases a
    ·split at a
     ·rename_i b
      simp only[if_pos b]
      injection a with a
      injection a with h1 h2
      subst h1 h2
      exact ⟨by rw[jh g,qi],zW⟩
     ·cases a
    ·cases a
   ·cases a
theorem Qg {q:Nat × Nat × Nat × Nat}:∀(y:AV),jI h y=some q->jI (fill φ h) y=some q
 | .tl id st,a=>by
   simp only[jI] at a⊢
   split at a
   ·rename_i b;simp only[zM b rfl];exact a
   ·cases a
 | .vw (.tl id st) e i n,a=>by
   simp only[jI] at a⊢
   split at a
   ·rename_i b;simp only[zM b rfl];exact a
   ·cases a
 | .vw (.sl _ _) _ _ _,a | .vw .em _ _ _,a | .vw (.vw _ _ _ _) _ _ _,a | .vw (.v _) _ _ _,a | .vw (.ptr _ _) _ _ _,a | .vw (.ep _ _ _ _) _ _ _,a | .vw (.mp _) _ _ _,a | .vw (.ag _) _ _ _,a | .vw (.tup _) _ _ _,a | .vw (.fn _ _ _) _ _ _,a | .vw .bad _ _ _,a=>by cases a
 | .sl _ _,a | .em,a | .ptr _ _,a | .ep _ _ _ _,a | .v _,a | .mp _,a | .ag _,a | .tup _,a | .fn _ _ _,a | .bad,a=>by cases a
theorem Qh {id i ty e:Nat} {ys:List (List AV)} (a:jZ h id i ty e ys=some h'):jZ (fill φ h) id i ty e ys=some (fill φ h')/\ResK h h':=by
 unfold jZ at a⊢
 split at a
 ·rename_i b
  simp only[zM b rfl]
  split at a
  ·rename_i c
   rw[if_pos c]
   injection a with a
   subst a
   exact ⟨by rw[q9 rfl],zK b rfl⟩
  ·cases a
 ·cases a
theorem Y7 (s:Upto φ h.length) (c:Call) (a:wA P T h c=some (x,h')):wA P T (fill φ h) c=some (x,fill φ h')/\ResK h h':=by
 unfold wA at a⊢
 split at a
 ·split at a
  ·rename_i e g
   cases b:zo h (ev T _) with
   | none=>rw[b] at a;cases a
   | some xs=>
     rw[b] at a
     injection a with a;injection a with h1 d;subst h1 d
     simp only[g,ji _ b]
     exact ⟨rfl,.refl⟩
  ·cases a
 ·split at a
  ·rename_i e g
   split at a
   ·rename_i r
    simp only[g,if_pos r]
    exact VH s _ _ a
   ·cases a
  ·cases a
 ·split at a
  ·rename_i e g
   cases f:jI h (ev T _) with
   | none=>rw[f] at a;cases a
   | some q=>
     obtain ⟨id,st,i,n⟩:=q
     rw[f] at a
     simp only[Option.bind_some] at a
     cases o:(zi P e).zero with
     | none=>rw[o] at a;cases a
     | some z=>
       rw[o] at a
       simp only[Option.bind_some] at a
       split at a
       ·rename_i p
        cases b:jZ h id i e (zi P e).sz (List.replicate n (z.map .v)) with
        | none=>rw[b] at a;cases a
        | some d=>
          rw[b] at a
          injection a with a;injection a with h1 d;subst h1 d
          obtain ⟨l,m⟩:=Qh (φ:=φ) b
          simp only[g,Qg _ f,Option.bind_some,o,if_pos p,l]
          exact ⟨rfl,m⟩
       ·cases a
  ·cases a
 ·split at a
  ·rename_i e g
   split at a
   ·rename_i p
    cases f:jI h (ev T _) with
    | none=>rw[f] at a;cases a
    | some q=>
      obtain ⟨id,st,i,n⟩:=q
      rw[f] at a
      simp only[Option.bind_some] at a
      cases k:zo h (ev T _) with
      | none=>rw[k] at a;cases a
      | some ys=>
        rw[k] at a
        simp only[Option.bind_some] at a
        cases b:jZ h id i e (zi P e).sz (ys.take n) with
        | none=>rw[b] at a;cases a
        | some d=>
          rw[b] at a
          injection a with a;injection a with h1 d;subst h1 d
          obtain ⟨l,m⟩:=Qh (φ:=φ) b
          simp only[g,if_pos p,Qg _ f,Option.bind_some,ji _ k,l]
          exact ⟨rfl,m⟩
   ·cases a
  ·cases a
 ·cases j:Wk _ _ with
  | none=>rw[j] at a;cases a
  | some y=>
    rw[j] at a
    injection a with a;injection a with h1 d;subst h1 d
    exact ⟨rfl,.refl⟩
 ·cases j:Wl _ _ with
  | none=>rw[j] at a;cases a
  | some y=>
    rw[j] at a
    injection a with a;injection a with h1 d;subst h1 d
    exact ⟨rfl,.refl⟩
 ·cases a
theorem Wy {op:Op} {mk:Nat->AV} (a:qo P T op=some (o,mk)):o.isRes=false:=by
 unfold qo at a
 repeat' split at a
 all_goals first
  | cases a;done
  | (simp only[Option.map_eq_some_iff,Prod.mk.injEq] at a;obtain ⟨_,_,rfl,_⟩:=a;rfl)
  | (injection a with a;injection a with h1 h2;subst h1;rfl)
theorem ja {α:Type} {y:Option α} {f:α->AV} (b:(y.map λa=>(f a,h))=some (x,h')):∃a,y=some a/\f a=x/\h=h':=by
 cases y with
 | none=>cases b
 | some a=>injection b with b;injection b with h1 h2;exact ⟨a,rfl,h1,h2⟩
theorem wl (J:Upto φ h.length) (op:Op) (b:zn P T h op=some (x,h')):zn P T (fill φ h) op=some (x,fill φ h')/\ResK h h':=by
 have alloc:∀s,(qo P T s).map (λq=>(q.2 h.length,h++[q.1]))=some (x,h')->(qo P T s).map (λq=>(q.2 (fill φ h).length,fill φ h++[q.1]))=some (x,fill φ h')/\ResK h h':=λs b=>by
  cases K:qo P T s with
  | none=>rw[K] at b;cases b
  | some q=>
    rw[K] at b
    injection b with b;injection b with g d;subst g d
    exact ⟨by rw[jh J,qi];rfl,zW⟩
 have same:∀ {y:AV},some (y,h)=some (x,h')->some (y,fill φ h)=some (x,fill φ h')/\ResK h h':=λe=>by
  injection e with e;injection e with g d;subst g d;exact ⟨rfl,.refl⟩
 cases op with
 | move y=>exact same b
 | assign y=>exact same b
 | makeFunc f p q=>exact same b
 | alloc t=>exact alloc _ b
 | box t y=>exact alloc _ b
 | buildSlice t n G=>exact alloc _ b
 | makeSlice t l c=>exact alloc _ b
 | makeMap t r=>exact alloc _ b
 | call c=>exact Y7 J c b
 | load t y=>
   obtain ⟨a,g,d,o⟩:=ja b
   subst d o
   exact ⟨by simp only[zn,Xb _ g];rfl,.refl⟩
 | store t y z=>
   simp only[zn] at b⊢
   split at b
   ·rename_i N
    cases j:(ev T z).cells with
    | none=>rw[j] at b;cases b
    | some ns=>
      rw[j] at b
      simp only[Option.bind_some] at b
      split at b
      ·rename_i A
       cases F:vD h ns (ev T y) with
       | none=>rw[F] at b;cases b
       | some d=>
         rw[F] at b
         injection b with b;injection b with g d;subst g d
         obtain ⟨Q,M⟩:=Wx (φ:=φ) _ F
         exact ⟨by simp only[if_pos N,j,Option.bind_some,if_pos A,Q];rfl,M⟩
      ·cases b
   ·cases b
 | binOp op t y z u=>
   simp only[zn] at b⊢
   split at b
   ·rename_i D
    obtain ⟨a,g,d,o⟩:=ja b
    subst d o
    exact ⟨by simp only[if_pos D,jea _ g];rfl,.refl⟩
   ·rename_i D
    obtain ⟨a,g,d,o⟩:=ja b
    subst d o
    exact ⟨by simp only[if_neg D,g];rfl,.refl⟩
 | indexAddr t y z=>
   simp only[zn] at b⊢
   split at b
   ·split at b
    ·rename_i j
     obtain ⟨a,g,d,o⟩:=ja b
     subst d o
     exact ⟨by simp only[if_pos (show _/\_/\_ from ⟨j.1,j.2.1,vF (φ:=φ) _ j.2.2⟩),jfa _ g];rfl,.refl⟩
    ·cases b
   ·split at b
    ·rename_i j
     simp only[if_pos j]
     split at b
     ·exact same b
     ·exact same b
     ·cases b
    ·cases b
   ·cases b
 | slice t y lo C O=>
   cases O with
   | some m=>cases b
   | none=>
     simp only[zn] at b⊢
     split at b
     ·rename_i e R
      cases E:zo h (ev T y) with
      | none=>rw[E] at b;cases b
      | some xs=>
        rw[E] at b
        simp only[ji _ E,Option.bind_some] at b⊢
        cases A:wi T 0 lo with
        | none=>rw[A] at b;cases b
        | some l=>
          rw[A] at b
          simp only[Option.bind_some] at b⊢
          cases I:wi T xs.length C with
          | none=>rw[I] at b;cases b
          | some m=>
            rw[I] at b
            simp only[Option.bind_some] at b⊢
            split at b
            ·rename_i j
             rw[if_pos ⟨j.1,j.2.1,j.2.2.1,j.2.2.2.1,j.2.2.2.2.imp id λk=>⟨k.1,vF _ k.2⟩⟩]
             exact same b
            ·cases b
     ·cases b
 | insert t m k v=>
   simp only[zn] at b⊢
   split at b
   ·split at b
    ·rename_i kk' es w B
     simp only[zM B rfl]
     split at b
     ·rename_i heq
      simp only[w,if_pos heq]
      cases C:yB _ _ (ev T v) es with
      | none=>rw[C] at b;cases b
      | some es'=>
        rw[C] at b
        injection b with b;injection b with g d;subst g d
        exact ⟨by rw[q9 rfl];rfl,zK B rfl⟩
     ·cases b
    ·cases b
   ·cases b
 | lookup t m k ok=>
   simp only[zn] at b⊢
   split at b
   ·split at b
    ·rename_i kk' es z w B L
     simp only[zM B rfl,L]
     split at b
     ·rename_i heq
      simp only[w,if_pos heq]
      cases A:Wn _ _ z es with
      | none=>rw[A] at b;cases b
      | some p=>
        rw[A] at b
        exact same b
     ·cases b
    ·cases b
   ·cases b
 | build t G=>
   have h0:∀h,zn P T h (.build t G)=(zn P T [] (.build t G)).map λq=>(q.1,h):=λh=>by
    simp only[zn]
    split
    ·split
     ·cases (zi P t).zero with
      | none=>rfl
      | some z=>simp only[Option.bind_some];cases kN _ _ _<;>rfl
     ·rfl
    ·split
     ·cases (zi P t).zero with
      | none=>rfl
      | some z=>simp only[Option.bind_some];cases kN _ _ _<;>rfl
     ·rfl
    ·rfl
   rw[h0] at b⊢
   obtain ⟨a,g,d,o⟩:=ja b
   subst d o
   exact ⟨by rw[g];rfl,.refl⟩
 | fieldAddr t y i=>
   have h0:∀h,zn P T h (.fieldAddr t y i)=(zn P T [] (.fieldAddr t y i)).map λq=>(q.1,h):=λh=>by
    simp only[zn]
    split
    ·rename_i H _
     cases H[i]? with
     | none=>rfl
     | some f=>
       simp only[Option.bind_some]
       split
       ·split<;>rfl
       ·rfl
    ·rfl
   rw[h0] at b⊢
   obtain ⟨a,g,d,o⟩:=ja b
   subst d o
   exact ⟨by rw[g];rfl,.refl⟩
 | field t y i=>
   have h0:∀h,zn P T h (.field t y i)=(zn P T [] (.field t y i)).map λq=>(q.1,h):=λh=>by
    simp only[zn]
    split
    ·rename_i H _ _ _
     cases H[i]? with
     | none=>rfl
     | some f=>
       simp only[Option.bind_some]
       split
       ·cases part _ _ _ _<;>rfl
       ·rfl
    ·rfl
   rw[h0] at b⊢
   obtain ⟨a,g,d,o⟩:=ja b
   subst d o
   exact ⟨by rw[g];rfl,.refl⟩
 | _=>
   simp only[zn] at b⊢
   try cases b
   all_goals (repeat' split at b)
   all_goals first
    | cases b;done
    | exact same b
    | (obtain ⟨a,g,d,o⟩:=ja b;subst d o;exact ⟨by simp only[g];rfl,.refl⟩)
    | (rename_i j;rw[if_pos j];exact same b)
    | (rename_i j;rw[if_neg j];exact same b)
    | (rename_i j;rw[if_pos j];obtain ⟨a,g,d,o⟩:=ja b;subst d o;exact ⟨by simp only[g];rfl,.refl⟩)
end
end Go.Proofs.YtigdlmpjijhpaaaGreat.Ax
