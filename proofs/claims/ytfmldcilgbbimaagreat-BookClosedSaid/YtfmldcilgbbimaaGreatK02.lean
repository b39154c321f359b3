/-
  Joined.
-/
import Derived.Test.YtfmldcilgbbimaaGreatK01
import Derived.Laws.Pointers
import Derived.WalkSpells
import Derived.ChangeKeysEq
import Derived.Laws.BytesString
import Derived.Laws.Cells
set_option linter.unusedSimpArgs false
set_option linter.unusedVariables false
namespace Go.Proofs.YtfmldcilgbbimaaGreat.Ax
open Go Go.RowKit
section
variable {B:Nat} {w:World} {g:Gh} {h h':List Ob} {P:Program} {x:AV} {T:Nat->AV} {a:Act}
theorem JW (d:Nat):∀(l:List Field) (o:Nat) (xs ys:List AV) (us vs:List Value) (U V:Array Value) (r:Bool),
  vl P o (l.map λf=>(f.offset,f.type))=true->(l.all λf=>f.name != "_")=true->xs.length=l.length->jO xs ys=some r->ARs (ctx w g h) xs us->ARs (ctx w g h) ys vs->
  (∀j,us[j]? =U[o+j]?)->(∀j,vs[j]? =V[o+j]?)->(Op.eqFields (d+1) U V l).run P w= .ok r w
 | [],o,xs,ys,us,vs,U,V,r,_,_,t,a,_,_,_,_=>by
   have:xs=[]:=List.eq_nil_of_length_eq_zero t
   subst this
   cases ys with
   | nil=>injection a with a;subst a;simp[Op.eqFields]
   | cons y ys=>cases a
 | f::l,o,xs,ys,us,vs,U,V,r,s,K,t,a,R,Y,N,M=>by
   cases xs with
   | nil=>cases t
   | cons x xs=>
     cases ys with
     | nil=> cases x<;>try (cases a;done)
             rename_i v;cases v<;>cases a
     | cons y ys=>
       cases x<;>try (cases a;done)
       rename_i x
       cases x<;>try (cases a;done)
       rename_i k m
       cases y<;>try (cases a;done)
       rename_i y
       cases y<;>try (cases a;done)
       rename_i k' z
       simp only[jO] at a
       split at a
       ·rename_i Q
        subst Q
        cases J:jO xs ys with
        | none=>rw[J] at a;cases a
        | some O=>
          rw[J] at a
          injection a with a
          obtain ⟨u,C,G,c,D⟩:=R
          obtain ⟨v,A,H,i,B⟩:=Y
          have c:u= .int k m:=c
          have i:v= .int k z:=i
          subst c i G H
          simp only[List.map_cons,vl,Bool.and_eq_true,beq_iff_eq] at s
          obtain ⟨⟨L,q⟩,s⟩:=s
          simp only[List.all_cons,Bool.and_eq_true] at K
          cases b:(zl P f.type).kind<;>rw[b] at q<;>try (cases q;done)
          rename_i kk
          obtain ⟨S,ii,e,W,eq⟩:=qr (qv b (by simp))
          rw[eq] at b
          cases S<;>try (cases b;done)
          rename_i k2
          have p:=N 0
          have n:=M 0
          simp only[List.getElem?_cons_zero,Nat.add_zero] at p n
          have E:(_root_.Go.part f.type U f.offset).run P w= .ok (.int k m) w:=by
           simp[Go.part,isAgg,run_underlying e,L, <-p]
          have F:(_root_.Go.part f.type V f.offset).run P w= .ok (.int k z) w:=by
           simp[Go.part,isAgg,run_underlying e,L, <-n]
          have X:=JW d l (o+1) xs ys C A U V O s K.2 (by simpa using t) J D B
           (λj=>by have:=N (j+1);rw[show o+1+j=o+(j+1) by omega];simpa using this) (λj=>by have:=M (j+1);rw[show o+1+j=o+(j+1) by omega];simpa using this)
          have I:f.name≠ "_" :=by simpa using K.1
          simp only[Op.eqFields,I,ne_eq,not_false_eq_true,if_true,Sem.run_bind,E,F,Result.andThen_ok,run_equalIn_int w d f.type k k2 m z e,Sem.run_ite,Sem.run_pure,X]
          cases T:(m==z)<;>simp[<-a,T]
       ·cases a
theorem XC (p:kU (ctx w g h) T a) {t:TypeId} {X Y:Operand} {xs ys:List AV} {m:List (Nat × TypeId)} {b:Bool} (y:ev T X= .ag xs) (x:ev T Y= .ag ys) (c:(zl P t).kind= .struct m) (e:jz P t=true) (n:vl P 0 m=true) (s:xs.length=m.length) (q:jO xs ys=some b):
  ∃U V,a.eval X= .agg U/\a.eval Y= .agg V/\(Op.equalIn 10000 t (.agg U) (.agg V)).run P w= .ok b w/\P.eqGuardType P.depth t=false:=by
 have f:=qJ p X
 have k:=qJ p Y
 rw[y] at f
 rw[x] at k
 obtain ⟨U,v,f⟩:=f
 obtain ⟨V,r,k⟩:=k
 obtain ⟨d,i,o,u,eq⟩:=qr (qv c (by simp))
 rw[eq] at c
 cases d<;>try (cases c;done)
 rename_i fields
 injection c with c
 simp only[jz,Bool.and_eq_true,Bool.not_eq_true'] at e
 have l:P.fieldsOf t=fields:=by simp[Program.fieldsOf,o]
 rw[l] at e
 refine ⟨U,V,v,r,?_,e.1.1⟩
 rw[run_equalIn_struct (P:=P) w 9999 t U V (by rw[l];exact o) e.1.2,l]
 exact JW (g:=g) (h:=h) 9998 fields.toList 0 xs ys U.toList V.toList U V b (by rw[<-c] at n;exact n) e.2 (by rw[s, <-c];simp) q f k (λj=>by simp) (λj=>by simp)
theorem Kp (d:Nat) {e:TypeId} {k2:IntKind} (b:P.underlying e=some (.int k2)):∀(xs ys:List AV) (o:Nat) (us vs:List Value) (U V:Array Value) (r:Bool),jO xs ys=some r->ARs (ctx w g h) xs us->ARs (ctx w g h) ys vs->(∀j,us[j]? =U[o+j]?)->(∀j,vs[j]? =V[o+j]?)->
  (Op.eqItems (d+1) e 1 U V (List.range' o xs.length)).run P w= .ok r w
 | [],ys,o,us,vs,U,V,r,a,G,H,E,p=>by
   cases ys with
   | nil=>injection a with a;subst a;rfl
   | cons y ys=>cases a
 | x::xs,ys,o,us,vs,U,V,r,a,G,H,E,p=>by
   cases ys with
   | nil=> cases x<;>try (cases a;done)
           rename_i v;cases v<;>cases a
   | cons y ys=>
     cases x<;>try (cases a;done)
     rename_i x
     cases x<;>try (cases a;done)
     rename_i k m
     cases y<;>try (cases a;done)
     rename_i y
     cases y<;>try (cases a;done)
     rename_i k' n
     simp only[jO] at a
     split at a
     ·rename_i J
      subst J
      cases F:jO xs ys with
      | none=>rw[F] at a;cases a
      | some I=>
        rw[F] at a
        injection a with a
        obtain ⟨u,t,C,c,A⟩:=G
        obtain ⟨v,q,D,f,s⟩:=H
        have c:u= .int k m:=c
        have f:v= .int k n:=f
        subst c f C D
        have l:=E 0
        have i:=p 0
        simp only[List.getElem?_cons_zero,Nat.add_zero] at l i
        have z:(_root_.Go.part e U (o*1)).run P w= .ok (.int k m) w:=by
         simp[Go.part,isAgg,run_underlying b, <-l]
        have B:(_root_.Go.part e V (o*1)).run P w= .ok (.int k n) w:=by
         simp[Go.part,isAgg,run_underlying b, <-i]
        have L:=Kp d b xs ys (o+1) t q U V I F A s
         (λj=>by have:=E (j+1);rw[show o+1+j=o+(j+1) by omega];simpa using this) (λj=>by have:=p (j+1);rw[show o+1+j=o+(j+1) by omega];simpa using this)
        rw[List.length_cons,List.range'_succ]
        simp only[Op.eqItems,Sem.run_bind,z,B,Result.andThen_ok,run_equalIn_int w d e k k2 m n b,Sem.run_ite,Sem.run_pure,L]
        cases K:(m==n)<;>simp[<-a,K]
     ·cases a
theorem X9a (v:kU (ctx w g h) T a) {t e:TypeId} {n:Nat} {X Y:Operand} {xs ys:List AV} {b:Bool} (J:ev T X= .ag xs) (F:ev T Y= .ag ys) (o:(zl P t).kind= .arr n e) (z:jz P t=true) (y:QGa P e=true) (D:xs.length=n) (C:jO xs ys=some b):
  ∃U V,a.eval X= .agg U/\a.eval Y= .agg V/\(Op.equalIn 10000 t (.agg U) (.agg V)).run P w= .ok b w/\P.eqGuardType P.depth t=false:=by
 have p:=qJ v X
 have q:=qJ v Y
 rw[J] at p
 rw[F] at q
 obtain ⟨U,E,p⟩:=p
 obtain ⟨V,G,q⟩:=q
 obtain ⟨d,i,B,I,eq⟩:=qr (qv o (by simp))
 rw[eq] at o
 cases d<;>try (cases o;done)
 rename_i n' x
 injection o with hk1 hk2
 subst hk1
 subst hk2
 simp only[jz,Bool.and_eq_true,Bool.not_eq_true'] at z
 simp only[QGa,Bool.and_eq_true,beq_iff_eq] at y
 obtain ⟨l,f⟩:=y
 cases c:(zl P x).kind<;>rw[c] at l<;>try (cases l;done)
 rename_i k
 obtain ⟨H,A,u,m,s⟩:=qr (qv c (by simp))
 rw[s] at c f
 cases H<;>try (cases c;done)
 have r:P.cellsOf x=1:=by
  have f:A.size=1:=f
  simp[Program.cellsOf,m,f]
 refine ⟨U,V,E,G,?_,z.1.1⟩
 rw[run_equalIn_array (P:=P) w 9999 U V B m,r,List.range_eq_range', <-D]
 exact Kp (g:=g) (h:=h) 9998 u xs ys 0 U.toList V.toList U V b C p q (λj=>by simp) (λj=>by simp)
theorem QIa (z:HOk B w g h) (hB:B<=w.heap.size) (r:kU (ctx w g h) T a) {op:BinOp} {t:TypeId} {X Y:Operand} (c:yda P op t (ev T X) (ev T Y)=some x):
  DidV P (do eqGuard op t X Y (a.eval X) (a.eval Y);binOp op t (a.eval X) (a.eval Y)) B w g h x h:=by
 unfold yda at c
 split at c
 ·rename_i k m k' n u s
  have j:=wt r u
  have l:=wt r s
  have H:(eqGuard op t X Y (.int k m) (.int k' n)).run P w= .ok () w:=by cases op<;>simp[eqGuard]
  split at c
  ·split at c
   ·rename_i I
    have G:¬ n<0:=by omega
    rw[j,l]
    cases op<;>simp only[j2a] at c<;>first
     | cases c;done
     | (injection c with c
        subst c
        refine qC z hB ?_ rfl
        simp[H,binOp,Op.shift,G]
        done)
   ·cases c
  ·rename_i J
   split at c
   ·rename_i f
    subst f
    rw[j,l]
    cases op<;>simp only[j3a] at c<;>first
     | cases c;done
     | (injection c with c;subst c
        refine qC z hB ?_ rfl
        simp[H,binOp,Op.intArith,Op.intCmp,Op.intDiv]
        done)
     | (split at c
        ·cases c
        ·rename_i I
         injection c with c
         subst c
         refine qC z hB ?_ rfl
         simp[H,binOp,Op.intDiv,I])
   ·cases c
 ·rename_i p q u s
  have j:=wt r u
  have l:=wt r s
  split at c
  ·rename_i f
   injection c with c
   subst c
   obtain ⟨d,i,A,C,eq⟩:=qr (qv f (by simp))
   rw[eq] at f
   cases d<;>try (cases f;done)
   rw[j,l]
   refine qC z hB ?_ rfl
   simp[eqGuard,binOp,Op.equal,Op.maxDepth,run_equalIn_bool' w 9999 t p q A]
  ·rename_i f
   injection c with c
   subst c
   obtain ⟨d,i,A,C,eq⟩:=qr (qv f (by simp))
   rw[eq] at f
   cases d<;>try (cases f;done)
   rw[j,l]
   refine qC z hB ?_ rfl
   simp[eqGuard,binOp,Op.equal,Op.maxDepth,run_equalIn_bool' w 9999 t p q A]
  ·cases c
 ·rename_i xs ys u s
  split at c
  ·rename_i K f
   split at c
   ·rename_i o
    simp only[Bool.and_eq_true,beq_iff_eq] at o
    cases v:jO xs ys with
    | none=>rw[v] at c;cases c
    | some b=>
      rw[v] at c
      injection c with c
      subst c
      obtain ⟨U,V,j,l,D,F⟩:=XC r u s f o.1.1 o.1.2 o.2 v
      rw[j,l]
      refine qC z hB ?_ rfl
      simp only[Sem.run_bind,run_eqGuard_agg w _ t X Y U V F,Result.andThen_ok,run_eql_struct,D]
   ·cases c
  ·rename_i K f
   split at c
   ·rename_i o
    simp only[Bool.and_eq_true,beq_iff_eq] at o
    cases v:jO xs ys with
    | none=>rw[v] at c;cases c
    | some b=>
      rw[v] at c
      injection c with c
      subst c
      obtain ⟨U,V,j,l,D,F⟩:=XC r u s f o.1.1 o.1.2 o.2 v
      rw[j,l]
      refine qC z hB ?_ rfl
      simp only[Sem.run_bind,run_eqGuard_agg w _ t X Y U V F,Result.andThen_ok,run_neq_struct,D]
   ·cases c
  ·rename_i n e f
   split at c
   ·rename_i o
    simp only[Bool.and_eq_true,beq_iff_eq] at o
    cases v:jO xs ys with
    | none=>rw[v] at c;cases c
    | some b=>
      rw[v] at c
      injection c with c
      subst c
      obtain ⟨U,V,j,l,D,F⟩:=X9a r u s f o.1.1 o.1.2 o.2 v
      rw[j,l]
      refine qC z hB ?_ rfl
      simp only[Sem.run_bind,run_eqGuard_agg w _ t X Y U V F,Result.andThen_ok,run_eql_struct,D]
   ·cases c
  ·cases c
 ·rename_i u s
  have j:=wt r u
  have l:=wt r s
  split at c
  all_goals first | cases c;done | skip
  all_goals
   rename_i f
   injection c with c
   subst c
   obtain ⟨d,i,A,C,eq⟩:=qr (qv f (by simp))
   rw[eq] at f
   cases d<;>try (cases f;done)
   rw[j,l]
   refine qC z hB ?_ rfl
   have y:P.underlying t=some (.pointer (P.pointee t)):=by simp[Program.pointee,A]
   simp[eqGuard,run_eql_pointer_nil w t _ y,run_neq_pointer_nil w t _ y]
 ·rename_i id off u s
  have E:=qJ r X
  rw[u] at E
  obtain ⟨_,j⟩:=E
  have l:=wt r s
  split at c
  all_goals first | cases c;done | skip
  all_goals
   rename_i f
   injection c with c
   subst c
   obtain ⟨d,i,A,C,eq⟩:=qr (qv f (by simp))
   rw[eq] at f
   cases d<;>try (cases f;done)
   rw[j,l]
   refine qC z hB ?_ rfl
   have y:P.underlying t=some (.pointer (P.pointee t)):=by simp[Program.pointee,A]
   simp[eqGuard,run_eql_pointer_nil w t _ y,run_neq_pointer_nil w t _ y]
 ·rename_i p q u s
  have j:=wt r u
  have l:=wt r s
  rw[j,l]
  cases op<;>simp only at c<;>first
   | cases c;done
   | (injection c with c
      subst c
      refine qC z hB ?_ rfl
      simp[eqGuard,binOp,Op.stringOp])
 ·cases c
theorem qha (l:HOk B w g h) {y:AV} {u:Value} (a:Ji h y=true) (c:AR (ctx w g h) y u):∃A n k,u= .slice (some A) n k:=by
 unfold Ji at a
 rw[Bool.or_eq_true] at a
 rcases a with a | a
 ·unfold X7a at a
  split at a
  ·obtain ⟨A,k,e⟩:=c;exact ⟨A,0,k,e⟩
  ·cases a
 ·unfold zga at a
  split at a
  ·rename_i r rs e j d
   simp only[decide_eq_true_eq] at a
   obtain ⟨A,k,o,s,i,_⟩:=kD l _ c j
   have b:=i e d
   have p:=b.len r (by simp)
   obtain ⟨m,q,f,_⟩:=b.cell 0 0 r (nth r 0) rfl (yc (by omega))
   subst f
   exact ⟨m,_,_,o⟩
  ·cases a
theorem QJa (r:HOk B w g h) (hB:B<=w.heap.size) (E:kU (ctx w g h) T a) {op:BinOp} {t:TypeId} {X Y:Operand} (s:QG Y=true) (f:qba P h op t (ev T X)=some x):
  DidV P (do eqGuard op t X Y (a.eval X) (a.eval Y);binOp op t (a.eval X) (a.eval Y)) B w g h x h:=by
 have C:∃n c,a.eval Y= .slice none n c:=by
  unfold QG at s
  split at s
  ·exact ⟨_,_,rfl⟩
  ·cases s
 obtain ⟨n,c,D⟩:=C
 rw[D]
 unfold qba at f
 split at f
 ·rename_i e p
  obtain ⟨d,i,v,z,eq⟩:=qr (qv p (by simp))
  rw[eq] at p
  cases d<;>try (cases p;done)
  have key:∀A m k b,a.eval X= .slice A m k->A.isNone=b->Ve op b=some x->DidV P (do eqGuard op t X Y (a.eval X) (.slice none n c);binOp op t (a.eval X) (.slice none n c)) B w g h x h:=λA m k b l u j=>by
   rw[l]
   cases op<;>simp only[Ve] at j<;>first
    | cases j;done
    | skip
   ·injection j with j
    subst j
    refine qC r hB ?_ rfl
    simp[eqGuard,Lib.run_eql_slice_nil w t _ A m k n c v,u]
   ·injection j with j
    subst j
    refine qC r hB ?_ rfl
    simp[eqGuard,run_neq_slice_nil_any w t _ A m k n c v,u]
  have o:=qJ E X
  split at f
  ·rename_i q
   unfold xA at q
   split at q
   ·rename_i m k l
    rw[l] at o
    have o:a.eval X= .slice none m k:=o
    exact key none m k true o rfl f
   ·cases q
  ·split at f
   ·rename_i y
    obtain ⟨A,m,k,l⟩:=qha r y o
    exact key (some A) m k false l rfl f
   ·cases f
 ·cases f
end
section
variable {B:Nat} {w:World} {g:Gh} {h h':List Ob} {P:Program} {x:AV} {T:Nat->AV} {a:Act}
theorem Vh (F:HOk B w g h) {y:AV} {u:Value} {id st i n:Nat} (a:xf h y=some (id,st,i,n)) (z:AR (ctx w g h) y u):
  ∃ty e xs A k,h[id]? =some (.row ty e xs st)/\i+n<=xs.length/\u= .slice A n k/\(0<n->∃l m j,g.cur id= .slice (some l) m j/\A=some (l.add (i*e))):=by
 unfold xf at a
 split at a
 ·rename_i c st'
  split at a
  ·rename_i ty e xs s f
   split at a
   ·rename_i p
    injection a with a
    injection a with h1 a
    injection a with h2 a
    injection a with h3 h4
    subst h1 h2 h3 h4
    subst p
    have r:=ZU z f
    obtain ⟨L,J,cells,C,N⟩:=F.ok _ _ f
    obtain ⟨A,j,d,O⟩:=vk C
    have d:g.cur c= .slice A xs.length j:=d
    refine ⟨ty,e,xs,A,j,f,by omega,r.trans d,λo=>?_⟩
    rcases C.2 with ⟨b,v⟩ | ⟨R,cap,cur,b,_⟩
    ·rw[v] at o;simp at o
    ·have b:g.cur c=_:=b
     rw[b] at d
     injection d with d e3 e4
     exact ⟨_,_,_,b,by rw[<-d,Nat.zero_mul];rfl⟩
   ·cases a
  ·cases a
 ·rename_i c st' M P Q
  split at a
  ·rename_i ty e xs s f
   split at a
   ·rename_i p
    obtain ⟨q,x,t⟩:=p
    injection a with a
    injection a with h1 a
    injection a with h2 a
    injection a with h3 h4
    subst h1 h2 h3 h4
    subst q x
    obtain ⟨A,m,j,G,k,D,I,K,E,H,_⟩:=z
    have r:=ZU D f
    refine ⟨ty,e,xs,G,k,f,t,E,λo=>?_⟩
    obtain ⟨l,b,v⟩:=H o
    subst b
    exact ⟨l,m,j,r.symm,v⟩
   ·cases a
  ·cases a
 ·cases a
theorem zT {α:Type} {l:List α} {i:Nat} {a:α} (h:l[i]? =some a):l.set i a=l:=by
 apply List.ext_getElem?
 intro j
 by_cases b:i=j
 ·subst b;rw[List.getElem?_set_self (List.getElem?_eq_some_iff.1 h).1,h]
 ·rw[List.getElem?_set_ne b]
theorem kJa:∀(p q r s:List AV),q.length=s.length->lay (p++q++r) p.length s=some (p++s++r)
 | [],q,r,s,c=>by
   have key:∀(s q:List AV),q.length=s.length->lay (q++r) 0 s=some (s++r):=by
    intro s
    induction s with
    | nil=>
      intro q b
      have:q=[]:=List.eq_nil_of_length_eq_zero (by simpa using b)
      subst this
      simp only[List.nil_append]
      cases r<;>rfl
    | cons y s d=>
      intro q b
      cases q with
      | nil=>cases b
      | cons z q=>
        simp only[List.cons_append,lay]
        rw[d q (by simpa using b)]
        rfl
   simpa using key s q c
 | a::p,q,r,s,c=>by
   have:=kJa p q r s c
   simp only[List.cons_append,List.length_cons,lay]
   rw[this]
   rfl
theorem yfa {e:Nat} {xs ys:List (List AV)} {i:Nat} (d:∀x∈xs,x.length=e) (g:∀y∈ys,y.length=e) (k:i+ys.length<=xs.length):
  lay xs.flatten (i*e) ys.flatten=some (jP xs i ys).flatten/\(∀x∈jP xs i ys,x.length=e)/\(jP xs i ys).length=xs.length:=by
 have j:xs=xs.take i++(xs.drop i).take ys.length++xs.drop (i+ys.length):=by
  rw[List.append_assoc, <-List.drop_drop,List.take_append_drop,List.take_append_drop]
 have a:∀x∈xs.take i,x.length=e:=λx h=>d x (List.mem_of_mem_take h)
 have b:∀x∈(xs.drop i).take ys.length,x.length=e:=λx h=>d x (List.mem_of_mem_drop (List.mem_of_mem_take h))
 have f:(xs.take i).flatten.length=i*e:=by rw[xP a];congr 1;simp;omega
 have c:((xs.drop i).take ys.length).flatten.length=ys.flatten.length:=by rw[xP b,xP g];congr 1;simp;omega
 refine ⟨?_,λx h=>?_,by simp[jP];omega⟩
 ·have:=kJa (xs.take i).flatten ((xs.drop i).take ys.length).flatten (xs.drop (i+ys.length)).flatten ys.flatten c
  rw[f] at this
  conv=>lhs;rw[j]
  simp only[List.flatten_append,jP]
  exact this
 ·unfold jP at h
  rcases List.mem_append.1 h with h | h
  ·rcases List.mem_append.1 h with h | h
   ·exact a x h
   ·exact g x h
  ·exact d x (List.mem_of_mem_drop h)
theorem qia (f:HOk B w g h) (hB:B<=w.heap.size) {id st i n ty e:Nat} {xs ys:List (List AV)} (c:h[id]? =some (.row ty e xs st)) (b:i+ys.length<=xs.length) (q:∀y∈ys,y.length=e) {d:Addr} {m p:Nat} (l:g.cur id= .slice (some d) m p)
  {vs:List Value} (a:ARs (ctx w g h) ys.flatten vs) (o:∀v∈vs,v.oneCell'=true):
  ∃w' g',(storeCells (d.add (i*e)) vs).run P w= .ok () w'/\Good B w g h w' g' (h.set id (.row ty e (jP xs i ys) st)):=by
 obtain ⟨t,k,cells,s,u⟩:=f.ok _ _ c
 obtain ⟨j,l2,r⟩:=yfa k q b
 exact kIa f hB c l a o j l2 r
theorem vya (H:HOk B w g h) (hB:B<=w.heap.size) {t ty e:TypeId} {y:AV} {u:Value} (N:AR (ctx w g h) y u) (f:(zl P t).kind= .slice e) {id st i n:Nat} (I:xf h y=some (id,st,i,n)) {z:List Value} (s:(zl P e).zero=some z)
  (M:(zl P e).ok=true) (Q:z.length=(zl P e).sz) (b:xJ h id i e (zl P e).sz (List.replicate n (z.map .v))=some h'):
  ∃w' g',(Builtin.clear_ #[t] ty #[u]).run P w= .ok (.tuple #[]) w'/\Good B w g h w' g' h':=by
 obtain ⟨d,it,q,γ,eq⟩:=qr (qv f (by simp))
 rw[eq] at f
 cases d<;>try (cases f;done)
 injection f with f
 subst f
 rename_i e
 obtain ⟨β,O,xs,A,k,p1,p2,C,J⟩:=Vh H I N
 unfold xJ at b
 rw[p1] at b
 simp only at b
 split at b
 ·rename_i V
  obtain ⟨c1,Y,K⟩:=V
  injection b with b
  subst b
  subst c1
  by_cases L:n=0
  ·subst L
   have:jP xs i (List.replicate 0 (z.map AV.v))=xs:=by simp[jP]
   rw[this,zT p1]
   refine ⟨w,g,?_,Good.refl H hB⟩
   subst C
   cases A<;>simp[Builtin.clear_,run_underlying q]
  ·obtain ⟨ad,m,cp,W,S⟩:=J (by omega)
   obtain ⟨d',T,R,G,j⟩:=qr M
   cases c:T.zero with
   | none=>rw[j] at s;simp[c] at s
   | some D=>
     have x:D.cells.toList=z:=by rw[j] at s;simpa [c] using s
     have a:∀y∈List.replicate n (z.map AV.v),y.length=O:=λy Z=>by rw[List.eq_of_mem_replicate Z];simp[Q,Y]
     have F:(List.replicate n (z.map AV.v)).flatten=(List.replicate n z).flatten.map AV.v:=by
      clear a K p2 J C I
      induction n with
      | zero=>simp
      | succ m ih=>simp[List.replicate_succ]
     have l:∀v∈(List.replicate n z).flatten,v.oneCell'=true:=λv U=>by
      obtain ⟨r,E,o⟩:=List.mem_flatten.1 U
      rw[List.eq_of_mem_replicate E] at o
      have:=List.all_eq_true.1 K (z.map AV.v) (by rw[List.mem_replicate];exact ⟨L,rfl⟩)
      simp only[Bool.and_eq_true] at this
      have:=List.all_eq_true.1 this.2 (.v v) (List.mem_map.2 ⟨v,o,rfl⟩)
      exact this
     obtain ⟨w',g',X,s2⟩:=qia (P:=P) (n:=n) H hB p1 (i:=i) (ys:=List.replicate n (z.map AV.v)) (by simpa using p2) a W (vs:=(List.replicate n z).flatten) (by rw[F];exact ZT _) l
     refine ⟨w',g',?_,s2⟩
     subst C
     subst S
     have p:(Builtin.zeroCells D.cells n).toList=(List.replicate n z).flatten:=by
      have:=Q9 D.cells n
      rw[x] at this
      exact this
     obtain ⟨n,rfl⟩:∃m,n=m+1:=⟨n - 1,by omega⟩
     simp[Builtin.clear_,run_underlying q,Vf G c,p,X]
 ·cases b
theorem Yf {sz n:Nat} {A:Option Addr} {m k:Nat} {vs:List Value} (b:vs.length=n*sz) (d:A=none->n=0) (c:∀a,A=some a->∀j u,vs[j]? =some u->w.cell? (a.add j)=some u):(Builtin.firstCells sz n (.slice A m k)).run P w= .ok vs.toArray w:=by
 cases A with
 | none=>
   have:vs=[]:=List.eq_nil_of_length_eq_zero (by rw[b,d rfl,Nat.zero_mul])
   subst this
   simp[Builtin.firstCells]
 | some a=>
   have:=run_loadCells_list (P:=P) w a vs (c a rfl)
   rw[b] at this
   simpa [Builtin.firstCells] using this
theorem yga (O:HOk B w g h) (hB:B<=w.heap.size) {t ty e:TypeId} {y s:AV} {u v:Value} (hu:AR (ctx w g h) y u) (hv:AR (ctx w g h) s v) (o:(zl P t).kind= .slice e) {id st i n:Nat} (hp:xf h y=some (id,st,i,n)) {ys:List (List AV)} (C:zq h s=some ys)
  (ho:(zl P e).ok=true) (h0:0<(zl P e).sz) (p:xJ h id i e (zl P e).sz (ys.take n)=some h'):
  ∃w' g',(Builtin.copy_ #[t,t] ty #[u,v]).run P w= .ok (.int .i64 ((ys.take n).length:Nat)) w'/\Good B w g h w' g' h':=by
 obtain ⟨d,it,J,hit,eq⟩:=qr (qv o (by simp))
 rw[eq] at o
 cases d<;>try (cases o;done)
 injection o with o
 subst o
 rename_i e
 obtain ⟨X,Z,xs,A,k,p1,p2,Y,p4⟩:=Vh O hp hu
 obtain ⟨A2,k2,r1,r2,r3,r4⟩:=kD O _ hv C
 unfold xJ at p
 rw[p1] at p
 simp only at p
 split at p
 ·rename_i hc
  obtain ⟨c1,c2,c3⟩:=hc
  injection p with p
  subst p
  subst c1
  obtain ⟨d',N,ο,I,R⟩:=qr ho
  have S:(zl P X).sz=N.size:=by rw[R]
  have c:(ys.take n).length=min ys.length n:=by rw[List.length_take,Nat.min_comm]
  have l:∀r∈ys.take n,r.length=Z/\r.all AV.one=true:=λr C=>by
   have:=List.all_eq_true.1 c3 r C
   simp only[Bool.and_eq_true,beq_iff_eq] at this
   exact ⟨by rw[c2];exact this.1,this.2⟩
  by_cases E:(ys.take n).length=0
  ·have W:ys.take n=[]:=List.eq_nil_of_length_eq_zero E
   have:jP xs i (ys.take n)=xs:=by rw[W];simp[jP]
   rw[this,zT p1]
   refine ⟨w,g,?_,Good.refl O hB⟩
   subst Y
   subst r1
   have L:Nat.min ys.length n=0:=by rw[<-E,c]
   have K:=Yf (P:=P) (w:=w) (sz:=N.size) (n:=0) (A:=A2) (m:=ys.length) (k:=k2) (vs:=[]) (by simp) (λ_=>rfl) (λ_ _ _ _ h=>by simp at h)
   rw[E]
   cases A<;>simp[Builtin.copy_,run_underlying J,Builtin.lenOf,sizeOf,typeInfo,I,L,K,goInt,storeCells]
  ·have U:0<n:=by
    rcases Nat.eq_zero_or_pos n with h | h
    ·subst h;simp at E
    ·exact h
   obtain ⟨ad,m,cp,q1,q2⟩:=p4 U
   subst q2
   have x:ys≠[]:=λh=>by subst h;simp at E
   cases G:eOf h s with
   | none=>exact absurd (r4 G) x
   | some M=>
     have f:=r3 M G
     obtain ⟨r0,F⟩:∃r,r∈ys.take n:=List.exists_mem_of_ne_nil _ (λh=>E (by rw[h];rfl))
     have T:M=Z:=by rw[<-f.len r0 (List.mem_of_mem_take F)];exact (l r0 F).1
     subst T
     obtain ⟨b,Q⟩:∃b,A2=some b:=by
      cases z:ys with
      | nil=>exact absurd z x
      | cons q qs=>
        have hq:=f.len q (by rw[z];simp)
        obtain ⟨b,u',z1,_⟩:=f.cell 0 0 q (nth q 0) (by rw[z];rfl) (yc (by omega))
        exact ⟨b,z1⟩
     subst Q
     have H:RowsAt w (ctx w g h) M (ys.take n) (some b):=⟨λr C=>(l r C).1,λj k r a D o=>by
      rw[List.getElem?_take] at D
      split at D
      ·exact f.cell j k r a D o
      ·cases D⟩
     obtain ⟨news,n1,n2,n3,n4⟩:=Ye H λr C=>(l r C).2
     obtain ⟨w',g',s1,s2⟩:=qia (P:=P) (n:=n) O hB p1 (i:=i) (ys:=ys.take n) (by rw[c];omega) (λy hy=>(l y hy).1) q1 n4 n3
     refine ⟨w',g',?_,s2⟩
     subst Y
     subst r1
     have L:Nat.min ys.length n=(ys.take n).length:=c.symm
     have V:M=N.size:=by rw[c2,S]
     have K:=Yf (P:=P) (w:=w) (sz:=N.size) (n:=(ys.take n).length) (A:=some b) (m:=ys.length) (k:=k2) (vs:=news) (by rw[n1,V]) (λh=>by cases h) (λad h j u D=>by injection h with h;subst h;exact n2 j u D)
     obtain ⟨q,hq⟩:∃q,(ys.take n).length=q:=⟨_,rfl⟩
     rw[hq] at L K⊢
     simp[Builtin.copy_,run_underlying J,Builtin.lenOf,sizeOf,typeInfo,I,L,K,s1,goInt]
 ·cases p
theorem vza (K:HOk B w g h) (hB:B<=w.heap.size) (u:kU (ctx w g h) T a) {t e:TypeId} {X:Operand} {lo j:Option Operand} {xs:List (List AV)} {l m:Int} (p:(zl P t).kind= .slice e) (U:zq h (ev T X)=some xs) (i:yf T 0 lo=some l) (f:yf T xs.length j=some m)
  (M:(zl P e).ok=true) (h0:0<=l) (h1:l<=m) (H:m<=xs.length) (D:l=m∨(0<(zl P e).sz/\eOf h (ev T X)=some (zl P e).sz)):DidV P (Instr.sliceAt t (a.eval X) (lo.map a.eval) (j.map a.eval) none) B w g h (.vw (ev T X) (zl P e).sz l.toNat (m.toNat - l.toNat)) h:=by
 obtain ⟨d,it,G,Y,eq⟩:=qr (qv p (by simp))
 rw[eq] at p
 cases d<;>try (cases p;done)
 injection p with p
 subst p
 rename_i e
 obtain ⟨Z,S,R,F,s⟩:=qr M
 have J:=qJ u X
 obtain ⟨A,k,I,r2,V,r4⟩:=kD K _ J U
 have b:(match lo.map a.eval with | some v=>Instr.sliceBound v m.toNat .sliceB | none=>pure 0:Sem Nat).run P w= .ok l.toNat w:=by
  cases lo with
  | none=>injection i with i;subst i;rfl
  | some x=>
    simp only[yf] at i
    split at i
    ·rename_i kk n C
     injection i with i
     subst i
     have:=wt u C
     simp only[Option.map_some,this,Instr.sliceBound,asIntOf,Sem.run_bind,Sem.run_pure,Result.andThen_ok,if_pos (show 0<=n/\n<=(m.toNat:Int) by omega)]
    ·cases i
 have c:(match j.map a.eval with | some v=>Instr.sliceBound v k .sliceAcap | none=>pure xs.length:Sem Nat).run P w= .ok m.toNat w:=by
  cases j with
  | none=>injection f with f;subst f;simp
  | some x=>
    simp only[yf] at f
    split at f
    ·rename_i kk n C
     injection f with f
     subst f
     have:=wt u C
     simp only[Option.map_some,this,Instr.sliceBound,asIntOf,Sem.run_bind,Sem.run_pure,Result.andThen_ok,if_pos (show 0<=n/\n<=(k:Int) by omega)]
    ·cases f
 refine qC K hB (v:= .slice (if k=l.toNat then A else A.map (·.add (l.toNat*S.size))) (m.toNat - l.toNat) (k - l.toNat)) ?_ ?_
 ·have Q:(Instr.sliceBounds true xs.length k (lo.map a.eval) (j.map a.eval) none).run P w= .ok (l.toNat,m.toNat,k) w:=by
   unfold Instr.sliceBounds
   cases lo with
   | none=>cases j with
     | none=>
       injection b with b
       injection c with c
       simp[b,c]
     | some x=>
       injection b with b
       simp only[Option.map_some] at c
       simp[b,c]
   | some y=>cases j with
     | none=>
       injection c with c
       simp only[Option.map_some] at b
       simp[b,c]
     | some x=>
       simp only[Option.map_some] at b c
       simp[b,c]
  simp only[Instr.sliceAt,Sem.run_bind,run_underlying G,Result.andThen_ok,Instr.slice,I]
  simp only[Sem.run_bind,Q,Result.andThen_ok,sizeOf,typeInfo,run_program]
  simp[F]
 ·refine ⟨A,xs.length,k,_,_,by rw[<-I];exact J,by omega,by omega,rfl,λhn=>?_,λh0=>?_⟩
  rotate_left
  ·rw[h0]
   refine ⟨?_,rfl⟩
   split
   ·exact .inl rfl
   ·exact .inr (by simp)
  have E:k≠l.toNat:=by omega
  rw[if_neg E]
  cases A with
  | some O=>exact ⟨O,rfl,by rw[s];rfl⟩
  | none=>
    exfalso
    rcases D with he | ⟨N,z⟩
    ·omega
    ·have r:=V _ z
     cases o:xs with
     | nil=>rw[o] at H;simp at H;omega
     | cons q qs=>
       have hq:=r.len q (by rw[o];simp)
       obtain ⟨W,u',L,_⟩:=r.cell 0 0 q (nth q 0) (by rw[o];rfl) (yc (by omega))
       cases L
end
section
variable {B:Nat} {w:World} {g:Gh} {h h':List Ob} {P:Program} {x:AV} {T:Nat->AV} {a:Act} {kk:IntKind} {n:Int} {v:AV}
theorem jc:∀ {es:List (AV × AV)},xB kk es=true↔∀p∈es,p.1= .v (.int kk (xh p))
 | []=>by simp[xB]
 | p::r=>by
   have c:=jc (es:=r)
   constructor
   ·intro h q a
    unfold xB at h
    split at h
    ·rename_i heq;cases heq
    ·rename_i k m u d heq
     injection heq with b h2
     subst b h2
     simp only[Bool.and_eq_true,beq_iff_eq] at h
     rcases List.mem_cons.1 a with rfl | a
     ·simp[xh,h.1]
     ·exact c.1 h.2 q a
    ·cases h
   ·intro h
    obtain ⟨p1,p2⟩:=p
    have h0:p1=_:=h (p1,p2) (by simp)
    have b:=c.2 λq a=>h q (by simp[a])
    rw[h0]
    simp[xB,b]
theorem Kq {a b:List (AV × AV)} (d:a.Perm b) (h:xB kk b=true):xB kk a=true:=by
 rw[jc] at h⊢
 exact λp c=>h p (d.mem_iff.1 c)
theorem Jl:∀ {es:List (AV × AV)},jS n es=true↔∃p∈es,xh p=n
 | []=>by simp[jS]
 | p::r=>by simp[jS,Jl (es:=r)]
theorem vm:∀(es:List (AV × AV)),jh kk n v es=es.map λp=>if xh p=n then (.v (.int kk n),v) else p
 | []=>rfl
 | p::r=>by simp[jh,vm r]
theorem yh:∀(es:List (AV × AV)),(qS kk n v es).Perm ((.v (.int kk n),v)::es)
 | []=> .refl _
 | p::r=>by
   unfold qS
   split
   ·exact .refl _
   ·exact ((yh r).cons p).trans (.swap _ _ _)
theorem Kr {n n':Int} {v v':AV} (d:n≠n'):∀(es:List (AV × AV)),qS kk n v (qS kk n' v' es)=qS kk n' v' (qS kk n v es)
 | []=>by
   simp only[qS,xh]
   by_cases h:n<n'
   ·simp[h,show ¬ n'<n by omega]
   ·simp[h,show n'<n by omega]
 | p::r=>by
   have e:=Kr (v:=v) (v':=v') d r
   have k1:xh (.v (.int kk n),v)=n:=rfl
   have k2:xh (.v (.int kk n'),v')=n':=rfl
   by_cases b:n<xh p
   ·by_cases a:n'<xh p
    ·by_cases c:n<n'
     ·simp[qS,b,a,c,k1,k2,show ¬ n'<n by omega]
     ·simp[qS,b,a,c,k1,k2,show n'<n by omega]
    ·have c:n<n':=by omega
     simp[qS,b,a,k1,show ¬ n'<n by omega]
   ·by_cases a:n'<xh p
    ·have c:n'<n:=by omega
     simp[qS,b,a,k2,show ¬ n<n' by omega]
    ·simp[qS,b,a,e]
theorem xQ {c:Ctx}:∀ {l:List (AV × AV)} {es:List MapEntry},MapRel c l es->l.length=es.length
 | [],es,h=>by have h:es=[]:=h;simp[h]
 | p::r,es,⟨e,q,a,_,_,b⟩=>by subst a;simp[xQ b]
theorem xi {c:Ctx}:∀ {l:List (AV × AV)} {es:List MapEntry},MapRel c l es->∀(i:Nat) (p:AV × AV),l[i]? =some p->∃e,es[i]? =some e/\AR c p.1 e.key/\AR c p.2 e.val
 | q::r,es,⟨e,s,b,d,g,f⟩,0,p,a=>by injection a with a;subst a b;exact ⟨e,rfl,d,g⟩
 | q::r,es,⟨e,s,b,d,g,f⟩,i+1,p,a=>by
   subst b
   exact xi f i p (by simpa using a)
theorem XD {c:Ctx}:∀ {l:List (AV × AV)} {es:List MapEntry},l.length=es.length->(∀(i:Nat) (p:AV × AV) (e:MapEntry),l[i]? =some p->es[i]? =some e->AR c p.1 e.key/\AR c p.2 e.val)->MapRel c l es
 | [],[],_,_=>rfl
 | [],_::_,h,_=>by cases h
 | _::_,[],h,_=>by cases h
 | p::l,e::es,d,h=>⟨e,es,rfl,(h 0 p e rfl rfl).1,(h 0 p e rfl rfl).2,XD (by simpa using d) λi p e b a=>h (i+1) p e (by simpa using b) (by simpa using a)⟩
theorem Jm {kk':IntKind}:∀(es:List MapEntry) (i:Nat),(∀e∈es,∃m,e.key= .int kk m)->(∀e∈es,e.key≠ .int kk n)/\Instr.findNow (.int kk') (.int kk n) es i=some none∨∃j e,es[j]? =some e/\e.key= .int kk n/\Instr.findNow (.int kk') (.int kk n) es i=some (some (i+j,e.val))
 | [],i,_=> .inl ⟨by simp,rfl⟩
 | e::es,i,k=>by
   obtain ⟨m,c⟩:=k e (by simp)
   by_cases a:n=m
   ·subst a
    exact .inr ⟨0,e,rfl,c,by simp[Instr.findNow,c,Instr.sameNow]⟩
   ·have l:Instr.sameNow (.int kk') (.int kk n) e.key=some false:=by simp[c,Instr.sameNow,a]
    rcases Jm (kk':=kk') es (i+1) (λe o=>k e (by simp[o])) with ⟨f,d⟩ | ⟨j,g,f,d,p⟩
    ·refine .inl ⟨λg b=>?_,by simp[Instr.findNow,l,d]⟩
     rcases List.mem_cons.1 b with rfl | b
     ·rw[c];intro h;injection h with _ h;exact a h.symm
     ·exact f g b
    ·exact .inr ⟨j+1,g,by simpa using f,d,by simp[Instr.findNow,l,p];omega⟩
theorem Yg {es:List MapEntry} (g:(es.map (·.key)).Nodup) {i j:Nat} {e b:MapEntry} (f:es[i]? =some e) (k:es[j]? =some b) (h:e.key=b.key):i=j:=by
 have a:(es.map (·.key))[i]? =some e.key:=by simp[f]
 have c:(es.map (·.key))[j]? =some e.key:=by simp[k,h]
 have d:=(List.getElem?_eq_some_iff.1 a).1
 exact (List.getElem?_inj d g).1 (a.trans c.symm)
theorem qja {c:Ctx} {l:List (AV × AV)} {es:List MapEntry} (g:MapRel c l es) (j:xB kk l=true):∀e∈es,∃m,e.key= .int kk m:=λe h=>by
 obtain ⟨i,d⟩:=List.mem_iff_getElem?.1 h
 have f:i<l.length:=by rw[xQ g];exact (List.getElem?_eq_some_iff.1 d).1
 obtain ⟨k,a,b,_⟩:=xi g i _ (List.getElem?_eq_getElem f)
 rw[d] at a
 injection a with a
 subst a
 have:=jc.1 j l[i] (List.getElem_mem f)
 rw[this] at b
 exact ⟨_,b⟩
theorem Vi {z:AV}:∀ {es:List (AV × AV)},(∀p∈es,xh p≠n)->ZF n z es=(z,false)
 | [],_=>rfl
 | p::r,h=>by
   have c:=Vi (z:=z) (es:=r) λq b=>h q (by simp[b])
   have a:=h p (by simp)
   simp[ZF,c,a]
theorem Vj {z:AV}:∀ {es:List (AV × AV)},(∃p∈es,xh p=n)->∃p∈es,xh p=n/\ZF n z es=(p.2,true)
 | [],h=>by simp at h
 | p::r,h=>by
   by_cases a:xh p=n
   ·exact ⟨p,by simp,a,by simp[ZF,a]⟩
   ·obtain ⟨q,b,c⟩:=h
    rcases List.mem_cons.1 b with rfl | b
    ·exact absurd c a
    ·obtain ⟨e,f,g,d⟩:=Vj (z:=z) (es:=r) ⟨q,b,c⟩
     exact ⟨e,by simp[f],g,by simp[ZF,a,d]⟩
theorem Vk {c:Ctx} {L I mt:TypeId} {es:Array MapEntry} {k:Nat} {l l':List (AV × AV)} {b:Nat} {kk':IntKind} {z:Value} {y:AV} (W:P.underlying mt=some (.map L I)) (E:P.underlying L=some (.int kk')) (R:w.heap[b]? =some (.map es k)) (H:l'.Perm l) (F:MapRel c l' es.toList) (X:(es.toList.map (·.key)).Nodup)
  (m:xB kk l=true) (S:(zeroValue I).run P w= .ok z w) (A:AR c y z) (ok:Bool):
  ∃u,(Instr.lookup mt (.map (some b)) (.int kk n) ok).run P w= .ok u w/\AR c (if ok then .tup [(ZF n y l).1,.v (.bool (ZF n y l).2)] else (ZF n y l).1) u:=by
 have D:=Kq H m
 have T:∀ {β:Type} (f:Obj->Sem β),(Sem.getObj b f).run P w=(f (.map es k)).run P w:=λf=>by simp[Sem.run,R]
 have x:∀(r:Option (Nat × Value)) (q:Value) (t:Bool),Instr.findNow (.int kk') (.int kk n) es.toList 0=some r->(match r with | some (_,v)=>(pure (v,true):Sem (Value × Bool)) | none=>do pure (<-zeroValue I,false)).run P w= .ok (q,t) w->
   (Instr.lookup mt (.map (some b)) (.int kk n) ok).run P w= .ok (if ok then .tuple #[q,.bool t] else q) w:=λr q t U s=>by
  have M:∀d,(Instr.checkKey es.isEmpty (d+1) L (.int kk n)).run P w= .ok () w:=λd=>by simp[Instr.checkKey,run_underlying E]
  have Y:(getObj b).run P w= .ok (.map es k) w:=by simp[getObj,Sem.run,R]
  simp only[Instr.lookup,Sem.run_bind,run_underlying W,Result.andThen_ok,Y,Sem.run_pure,M,Instr.findKey,run_underlying E,U]
  cases r with
  | some p=>obtain ⟨i,v⟩:=p;simp only[Sem.run_pure] at s ⊢;injection s with s _;injection s with h o;subst h o;cases ok<;>simp
  | none=>simp only[Sem.run_bind,S,Result.andThen_ok,Sem.run_pure] at s ⊢;injection s with s _;injection s with h o;subst h o;cases ok<;>simp
 rcases Jm (kk':=kk') es.toList 0 (qja F D) (n:=n) with ⟨h,o⟩ | ⟨j,e,h,o,Z⟩
 ·have N:∀p∈l,xh p≠n:=λp B e=>by
   obtain ⟨i,K⟩:=List.mem_iff_getElem?.1 (H.mem_iff.2 B)
   obtain ⟨G,g,a,_⟩:=xi F i p K
   have:=jc.1 m p B
   rw[this,e] at a
   exact h G (List.mem_of_getElem? g) a
  refine ⟨_,x none z false o (by simp[S]),?_⟩
  rw[Vi N]
  cases ok
  ·exact A
  ·exact ⟨_,rfl,_,_,rfl,A,_,_,rfl,rfl,rfl⟩
 ·have C:j<l'.length:=by rw[xQ F];exact (List.getElem?_eq_some_iff.1 h).1
  have hex:∃p∈l,xh p=n:=by
   obtain ⟨G,g,a,_⟩:=xi F j _ (List.getElem?_eq_getElem C)
   rw[h] at g
   injection g with g
   subst g
   have O:=H.mem_iff.1 (List.getElem_mem C)
   have:=jc.1 m _ O
   rw[this] at a
   have a:e.key= .int kk _:=a
   rw[o] at a
   injection a with _ a
   exact ⟨_,O,a.symm⟩
  obtain ⟨p,p1,p2,V⟩:=Vj (z:=y) hex
  obtain ⟨i,K⟩:=List.mem_iff_getElem?.1 (H.mem_iff.2 p1)
  obtain ⟨G,g,a,Q⟩:=xi F i p K
  have:=jc.1 m p p1
  rw[this,p2] at a
  have a:G.key= .int kk n:=a
  have J:=Yg X g h (a.trans o.symm)
  subst J
  rw[h] at g
  injection g with g
  subst g
  refine ⟨_,x (some (0+i,e.val)) e.val true Z (by simp),?_⟩
  rw[V]
  cases ok
  ·exact Q
  ·exact ⟨_,rfl,_,_,rfl,Q,_,_,rfl,rfl,rfl⟩
theorem j9a (hh:HOk B w g h) (hB:B<=w.heap.size) {V et mt:TypeId} {id:Nat} {l l2:List (AV × AV)} {kk':IntKind} {u:Value} (hu:P.underlying mt=some (.map V et)) (F:P.underlying V=some (.int kk')) (S:h[id]? =some (.mapo l)) (hv:AR (ctx w g h) v u) (x:ZL kk n v l=some l2):
  ∃w',(Instr.mapUpdate mt (.map (some (g.β id))) (.int kk n) u).run P w= .ok () w'/\Good B w g h w' g (h.set id (.mapo l2)):=by
 obtain ⟨h1,es,k,l',O,s,y,Y⟩:=hh.ok id _ S
 have O:w.heap[g.β id]? =some (.map es k):=O
 unfold ZL at x
 split at x
 case isFalse=>cases x
 rename_i G
 injection x with x
 have C:=Kq s G
 have K:∀d,(Instr.checkKey false (d+1) V (.int kk n)).run P w= .ok () w:=λd=>by simp[Instr.checkKey,run_underlying F]
 have hg:(getObj (g.β id)).run P w= .ok (.map es k) w:=by simp[getObj,Sem.run,O]
 have A:∀o,(setObj (g.β id) o).run P w= .ok () { w with heap:=w.heap.setIfInBounds (g.β id) o }:=λo=>by simp[setObj,Sem.run,O]
 rcases Jm (kk':=kk') es.toList 0 (qja y C) (n:=n) with ⟨D,E⟩ | ⟨j,e,D,E,f3⟩
 ·have Z:jS n l=false:=by
   rw[Bool.eq_false_iff]
   intro hc
   obtain ⟨p,H,e⟩:=Jl.1 hc
   obtain ⟨i,Q⟩:=List.mem_iff_getElem?.1 (s.mem_iff.2 H)
   obtain ⟨N,r,f,_⟩:=xi y i p Q
   have:=jc.1 G p H
   rw[this,e] at f
   exact D N (List.mem_of_getElem? r) f
  rw[Z] at x
  simp only[Bool.false_eq_true,if_false] at x
  subst x
  refine ⟨_,?_,z6a hh hB S (es':=es.push { key:= .int kk n,val:=u,born:=k }) (k':=k+1) (l2:=l'++[(.v (.int kk n),v)]) ?_ ?_ ?_⟩
  ·simp only[Instr.mapUpdate,Sem.run_bind,run_underlying hu,Result.andThen_ok,hg,K,Instr.findKey,run_underlying F,E,Sem.run_pure,A]
  ·refine (List.perm_append_comm).trans (List.Perm.trans ?_ (yh l).symm)
   exact s.cons _
  ·rw[Array.toList_push]
   refine XD (by simp[xQ y]) λi p e s m=>?_
   by_cases Q:i<l'.length
   ·rw[List.getElem?_append_left Q] at s
    rw[List.getElem?_append_left (by rw[<-xQ y];exact Q)] at m
    obtain ⟨N,r,f,U⟩:=xi y i p s
    rw[m] at r;injection r with r;subst r
    exact ⟨f,U⟩
   ·have hl:=xQ y
    rw[List.getElem?_append_right (by omega)] at s m
    rw[<-hl] at m
    have h0:i - l'.length=0:=by
     have:=(List.getElem?_eq_some_iff.1 s).1
     simp at this;omega
    rw[h0] at s m
    injection s with s;injection m with m
    subst s m
    exact ⟨rfl,hv⟩
  ·rw[Array.toList_push,List.map_append,List.nodup_append]
   refine ⟨Y,by simp,λa ha b hb=>?_⟩
   simp at hb
   obtain ⟨e,m,rfl⟩:=List.mem_map.1 ha
   rw[hb]
   exact D e m
 ·have I:j<l'.length:=by rw[xQ y];exact (List.getElem?_eq_some_iff.1 D).1
  have M:jS n l=true:=by
   rw[Jl]
   obtain ⟨N,r,f,_⟩:=xi y j _ (List.getElem?_eq_getElem I)
   rw[D] at r
   injection r with r
   subst r
   have hm:=s.mem_iff.1 (List.getElem_mem I)
   have:=jc.1 G _ hm
   rw[this] at f
   have f:e.key= .int kk _:=f
   rw[E] at f
   injection f with _ f
   exact ⟨_,hm,f.symm⟩
  rw[M] at x
  simp only[if_true] at x
  subst x
  have J:es[j]? =some e:=by simpa using D
  refine ⟨_,?_,z6a hh hB S (es':=es.modify j λe=>{ e with key:= .int kk n,val:=u }) (k':=k) (l2:=jh kk n v l') ?_ ?_ ?_⟩
  ·have X:(Instr.keyThatStays e.key (.int kk n)).run P w= .ok (.int kk n) w:=by simp[Instr.keyThatStays,E,Instr.sameBits]
   rw[Nat.zero_add] at f3
   simp only[Instr.mapUpdate,Sem.run_bind,run_underlying hu,Result.andThen_ok,hg,K,Instr.findKey,run_underlying F,f3,Sem.run_pure,J,Option.map_some,Option.getD_some,X,A]
  ·rw[vm,vm]
   exact s.map _
  ·refine XD (by simp[vm,xQ y]) λi p N c m=>?_
   rw[vm,List.getElem?_map] at c
   cases z:l'[i]? with
   | none=>rw[z] at c;cases c
   | some q=>
     rw[z] at c
     injection c with c
     obtain ⟨e2,r,f,U⟩:=xi y i q z
     have L:=jc.1 C q (List.mem_of_getElem? z)
     rw[L] at f
     have f:e2.key= .int kk (xh q):=f
     rw[Array.getElem?_toList,Array.getElem?_modify] at m
     have W:es[i]? =some e2:=by simpa using r
     rw[W] at m
     by_cases R:xh q=n
     ·rw[R] at f
      have t:=Yg Y r D (f.trans E.symm)
      subst t
      have c:(if xh q=n then ((.v (.int kk n),v):AV × AV) else q)=p:=c
      rw[if_pos R] at c
      subst c
      simp only[if_true,Option.map_some] at m
      injection m with m
      subst m
      exact ⟨rfl,hv⟩
     ·have t:j≠i:=λT=>by
       subst T
       rw[D] at r
       injection r with r
       subst r
       rw[E] at f
       injection f with _ f
       exact R f.symm
      have c:(if xh q=n then ((.v (.int kk n),v):AV × AV) else q)=p:=c
      rw[if_neg R] at c
      subst c
      rw[if_neg t] at m
      injection m with m
      subst m
      exact ⟨by rw[L];exact f,U⟩
  ·have:(es.modify j λe=>{ e with key:= .int kk n,val:=u }).toList.map (·.key)=es.toList.map (·.key):=by
    apply List.ext_getElem?
    intro i
    rw[List.getElem?_map,List.getElem?_map,Array.getElem?_toList,Array.getElem?_modify,Array.getElem?_toList]
    by_cases t:j=i
    ·subst t;rw[J];simp[E]
    ·rw[if_neg t]
   rw[this]
   exact Y
theorem yha {c:Ctx} {t:TypeId} {z:AV} (b:kGa (zl P t)=some z):∃u,(zeroValue t).run P w= .ok u w/\AR c z u:=by
 unfold kGa at b
 split at b
 ·rename_i g
  cases a:(zl P t).zero with
  | none=>rw[a] at b;cases b
  | some k=>
    rw[a] at b
    simp only[Option.bind_some] at b
    obtain ⟨d,i,l,h,e⟩:=qr (zha a)
    rw[e] at a g
    cases f:i.zero with
    | none=>rw[f] at a;cases a
    | some v=>
      rw[f] at a g
      injection a with a
      have j:v.cells= #[v]:=by
       have g:v.oneCell'=true:=g
       cases v<;>first | rfl | cases g
      have a:v.cells.toList=k:=a
      rw[j] at a
      subst a
      injection b with b
      subst b
      exact ⟨v,Vf h f,rfl⟩
 ·cases b
theorem qka {c:Ctx} {t:TypeId} (o:(zl P t).ok=true) {cs:List AV} {vs:Array Value} (l:ARs c cs vs.toList) {k:Nat} {x:AV} (a:part cs k (zl P t).agg (zl P t).sz=some x):∃u,(_root_.Go.part t vs k).run P w= .ok u w/\AR c x u:=by
 obtain ⟨d,i,v,n,e⟩:=qr o
 rw[e] at a
 have f:(isAgg t).run P w= .ok (kEa d) w:=by
  simp only[isAgg,Sem.run_bind,run_underlying v,Result.andThen_ok]
  cases d<;>rfl
 simp only[part] at a
 split at a
 ·rename_i h
  cases b:cut cs k i.size with
  | none=>rw[b] at a;cases a
  | some rs=>
    rw[b] at a
    injection a with a
    subst a
    obtain ⟨r,s,y⟩:=zca l k _ b
    refine ⟨.agg (vs.extract k (k+i.size)),?_,_,rfl,?_⟩
    ·have j:k+i.size<=vs.size:=by simpa using s
     simp[_root_.Go.part,f,h,sizeOf,typeInfo,n,j]
    ·simpa [Array.toList_extract,List.extract_eq_take_drop] using r
 ·rename_i h
  split at a
  ·rename_i q
   injection a with a
   subst a
   obtain ⟨u,p,m⟩:=vM l k q
   refine ⟨u,?_,m⟩
   have g:vs[k]? =some u:=by simpa using p
   simp[_root_.Go.part,f,h,g]
  ·cases a
end
section
variable {B:Nat} {w:World} {g:Gh} {h h':List Ob} {P:Program} {x:AV} {T:Nat->AV} {a:Act}
theorem Yh:∀ {rows:List (List AV)} {l:List UInt8},z8a rows=some l->∃ns:List Int,rows=ns.map (λn=>[AV.v (.int .u8 n)])/\l=ns.map λn=>UInt8.ofNat n.toNat
 | [],l,h=>by
   injection h with h
   exact ⟨[],rfl,h.symm⟩
 | r::rows,l,h=>by
   unfold z8a at h
   split at h
   ·rename_i e;cases e
   ·rename_i n d e
    injection e with e1 e2
    subst e2
    cases a:z8a rows with
    | none=>rw[a] at h;cases h
    | some l'=>
      rw[a] at h
      injection h with h
      obtain ⟨ns,b,c⟩:=Yh a
      exact ⟨n::ns,by rw[e1,b];rfl,by rw[<-h,c];rfl⟩
   ·cases h
theorem vAa (l:List Int):∀s:ByteArray,l.foldl (λr n=>r.push (UInt8.ofNat n.toNat)) s=⟨s.data++(l.map λn=>UInt8.ofNat n.toNat).toArray⟩:=by
 induction l with
 | nil=>intro s;simp
 | cons x l a=>
   intro s
   simp only[List.map_cons,List.foldl_cons]
   rw[a]
   simp[ByteArray.push]
theorem yia (X:HOk B w g h) {s d:TypeId} {rows:List (List AV)} {v:Value} {z:AV} (Y:AR (ctx w g h) (.sl 1 rows) v) (Q:(zl P s).ok=true) (I:(zl P d).kind= .str) (c:yea P s rows=some z):
  ∃u,(convert s d v).run P w= .ok u w/\AR (ctx w g h) z u:=by
 obtain ⟨A,k,S,h2,p,_⟩:=kD X (.sl 1 rows) Y rfl
 have p:=p 1 rfl
 unfold yea at c
 split at c
 ·rename_i e o
  split at c
  ·rename_i a
   cases E:z8a rows with
   | none=>rw[E] at c;cases c
   | some l=>
     rw[E] at c
     injection c with c
     subst c
     obtain ⟨T,i1,G,N,K⟩:=qr Q
     obtain ⟨O,i2,q,Z,H⟩:=qr (qv I (by simp))
     obtain ⟨U,i3,F,V,r⟩:=qr (qv a (by simp))
     rw[K] at o
     rw[H] at I
     rw[r] at a
     cases T<;>try (cases o;done)
     cases O<;>try (cases I;done)
     cases U<;>try (cases a;done)
     injection o with o
     injection a with a
     subst o;subst a
     obtain ⟨ns,y,D⟩:=Yh E
     refine ⟨.string ⟨l.toArray⟩,?_,rfl⟩
     have W:∀i,A=some i->∀j u,(ns.map (Value.int .u8))[j]? =some u->w.cell? (i.add j)=some u:=λi R j u f=>by
      rw[List.getElem?_map] at f
      cases J:ns[j]? with
      | none=>rw[J] at f;cases f
      | some n=>
        rw[J] at f
        injection f with f
        subst f
        obtain ⟨t,M,m,L,C⟩:=p.cell j 0 [.v (.int .u8 n)] (.v (.int .u8 n)) (by rw[y,List.getElem?_map,J];rfl) rfl
        rw[R] at m
        injection m with m
        subst m
        rw[Nat.mul_one,Nat.add_zero] at L
        have C:M= .int .u8 n:=C
        rw[L,C]
     have x:rows.length=ns.length:=by rw[y,List.length_map]
     rw[S,run_convert_bytes_string w s d _ A rows.length k G F q]
     cases A with
     | none=>
       have h0:ns=[]:=by
        cases ns with
        | nil=>rfl
        | cons n ns=>
          obtain ⟨t,M,m,_⟩:=p.cell 0 0 [.v (.int .u8 n)] (.v (.int .u8 n)) (by rw[y];rfl) rfl
          cases m
       rw[h0] at x D
       rw[x,D]
       rfl
     | some i=>
       have b:=run_loadCells_list (P:=P) w i (ns.map (Value.int .u8)) (W i rfl)
       rw[List.length_map] at b
       rw[x,run_bytesToString w i ns.length k ns b,vAa,D]
       simp
  ·cases c
 ·cases c
theorem kKa {c:Ctx}:∀ {aZ:List AV} {y:AV} {vs:List Value} {v:Value},ARs c aZ vs->AR c y v->∀ {r:AV},z9a y aZ=some r->∃u,(vs.foldlM Builtin.max2 v).run P w= .ok u w/\AR c r u
 | [],y,vs,v,e,a,r,h=>by
   have e:vs=[]:=e
   subst e
   have h:some y=some r:=by rw[<-h];unfold z9a;rfl
   injection h with h;subst h
   exact ⟨v,rfl,a⟩
 | z::aZ,y,vs,v,⟨u,q,d,b,i⟩,a,r,h=>by
   subst d
   unfold z9a at h
   split at h
   ·rename_i heq;cases heq
   ·rename_i k p k' n j heq
    injection heq with h4 h5
    subst h4 h5
    have a:v= .int k p:=a
    have b:u= .int k' n:=b
    subst a b
    obtain ⟨u,f,g⟩:=kKa (y:= .v (.int k (if n>p then n else p))) i rfl h
    exact ⟨u,by simpa [List.foldlM_cons,Builtin.max2] using f,g⟩
   ·cases h
theorem kLa {c:Ctx}:∀ {aZ:List AV} {y:AV} {vs:List Value} {v:Value},ARs c aZ vs->AR c y v->∀ {r:AV},qaa y aZ=some r->∃u,(vs.foldlM Builtin.min2 v).run P w= .ok u w/\AR c r u
 | [],y,vs,v,e,a,r,h=>by
   have e:vs=[]:=e
   subst e
   have h:some y=some r:=by rw[<-h];unfold qaa;rfl
   injection h with h;subst h
   exact ⟨v,rfl,a⟩
 | z::aZ,y,vs,v,⟨u,q,d,b,i⟩,a,r,h=>by
   subst d
   unfold qaa at h
   split at h
   ·rename_i heq;cases heq
   ·rename_i k p k' n j heq
    injection heq with h4 h5
    subst h4 h5
    have a:v= .int k p:=a
    have b:u= .int k' n:=b
    subst a b
    obtain ⟨u,f,g⟩:=kLa (y:= .v (.int k (if n<p then n else p))) i rfl h
    exact ⟨u,by simpa [List.foldlM_cons,Builtin.min2] using f,g⟩
   ·cases h
theorem yja (G:HOk B w g h) (hB:B<=w.heap.size) (o:kU (ctx w g h) T a) {c:Call} {ty:TypeId} (f:yE P T h c=some (x,h')):
  Did P (do let d<-resolve a.eval c ty;invoke d.target d.args) B w g h x h':=by
 obtain ⟨callee,args,argTypes⟩:=c
 obtain ⟨args⟩:=args
 obtain ⟨argTypes⟩:=argTypes
 unfold yE at f
 split at f
 ·rename_i X t l b j
  simp only at l b j
  subst l b j
  split at f
  ·rename_i e p
   cases m:zq h (ev T X) with
   | none=>rw[m] at f;cases f
   | some xs=>
     rw[m] at f
     injection f with f
     injection f with hx1 hx2
     subst hx1 hx2
     obtain ⟨d,i,Q,U,eq⟩:=qr (qv p (by simp))
     rw[eq] at p
     cases d<;>try (cases p;done)
     obtain ⟨A,k,s,C,_,_⟩:=kD G _ (qJ o X) m
     refine ⟨.value (.int .i64 xs.length),_,w,g,?_,.inl rfl,Good.refl G hB,rfl⟩
     simp[resolve,invoke,builtin,Builtin.len_,s,run_underlying Q,goInt]
  ·cases f
 ·rename_i S X t O l b j
  simp only at l b j
  subst l b j
  split at f
  ·rename_i e p
   split at f
   ·rename_i I
    subst I
    obtain ⟨v,w',g',R,J,W⟩:=j8a (ty:=ty) G hB (qJ o S) (qJ o X) p f
    refine ⟨.value v,v,w',g',?_,.inl rfl,J,W⟩
    simp[resolve,invoke,builtin,R]
   ·cases f
  ·cases f
 ·rename_i X t l b j
  simp only at l b j
  subst l b j
  split at f
  ·rename_i e p
   cases F:xf h (ev T X) with
   | none=>rw[F] at f;cases f
   | some q=>
     obtain ⟨id,st,i,n⟩:=q
     rw[F] at f
     simp only[Option.bind_some] at f
     cases K:(zl P e).zero with
     | none=>rw[K] at f;cases f
     | some z=>
       rw[K] at f
       simp only[Option.bind_some] at f
       split at f
       ·rename_i H
        cases m:xJ h id i e (zl P e).sz (List.replicate n (z.map .v)) with
        | none=>rw[m] at f;cases f
        | some J=>
          rw[m] at f
          injection f with f
          injection f with hx1 hx2
          subst hx1 hx2
          obtain ⟨w',g',s,C⟩:=vya (P:=P) (ty:=ty) G hB (qJ o X) p F K H.1 H.2 m
          refine ⟨.value (.tuple #[]),.tuple #[],w',g',?_,.inl rfl,C,⟨_,rfl,rfl⟩⟩
          simp[resolve,invoke,builtin,s]
       ·cases f
  ·cases f
 ·rename_i D X t O l b j
  simp only at l b j
  subst l b j
  split at f
  ·rename_i e p
   split at f
   ·rename_i H
    obtain ⟨I,V,N⟩:=H
    subst I
    cases F:xf h (ev T D) with
    | none=>rw[F] at f;cases f
    | some q=>
      obtain ⟨id,st,i,n⟩:=q
      rw[F] at f
      simp only[Option.bind_some] at f
      cases L:zq h (ev T X) with
      | none=>rw[L] at f;cases f
      | some ys=>
        rw[L] at f
        simp only[Option.bind_some] at f
        cases m:xJ h id i e (zl P e).sz (ys.take n) with
        | none=>rw[m] at f;cases f
        | some J=>
          rw[m] at f
          injection f with f
          injection f with hx1 hx2
          subst hx1 hx2
          obtain ⟨w',g',s,C⟩:=yga (P:=P) (ty:=ty) G hB (qJ o D) (qJ o X) p F L V N m
          refine ⟨.value (.int .i64 ((ys.take n).length:Nat)),_,w',g',?_,.inl rfl,C,rfl⟩
          simp only[resolve,invoke,builtin]
          simp[s]
   ·cases f
  ·cases f
 ·rename_i M X r l b
  simp only at l b
  subst l b
  cases E:z9a (ev T X) (evl T r) with
  | none=>rw[E] at f;cases f
  | some y=>
    rw[E] at f
    injection f with f
    injection f with hx1 hx2
    subst hx1 hx2
    obtain ⟨u,s,C⟩:=kKa (P:=P) (w:=w) (Jj o r) (qJ o X) E
    refine ⟨.value u,u,w,g,?_,.inl rfl,Good.refl G hB,C⟩
    simp[resolve,invoke,builtin,Builtin.max_,s]
 ·rename_i M X r l b
  simp only at l b
  subst l b
  cases E:qaa (ev T X) (evl T r) with
  | none=>rw[E] at f;cases f
  | some y=>
    rw[E] at f
    injection f with f
    injection f with hx1 hx2
    subst hx1 hx2
    obtain ⟨u,s,C⟩:=kLa (P:=P) (w:=w) (Jj o r) (qJ o X) E
    refine ⟨.value u,u,w,g,?_,.inl rfl,Good.refl G hB,C⟩
    simp[resolve,invoke,builtin,Builtin.min_,s]
 ·cases f
theorem DidV.of {s:Sem Value} {t:Sem Next} (d:DidV P s B w g h x h') (e:t=(do pure (.value (<-s)))):Did P t B w g h x h':=e▸d.did
theorem qD {s:Sem Next} {v:Value} (a:HOk B w g h) (hB:B<=w.heap.size) (c:s.run P w= .ok (.value v) w) (b:AR (ctx w g h) x v):Did P s B w g h x h:=
 ⟨.value v,v,w,g,c,.inl rfl,Good.refl a hB,b⟩
theorem zja (H:HOk B w g h) (hB:B<=w.heap.size) (G:kU (ctx w g h) T a) (o:Oper) (C:zt P T h o.op=some (x,h')):Did P (execOp a.eval o) B w g h x h':=by
 obtain ⟨dst,op,type,pos,after,guard⟩:=o
 simp only at C
 have alloc:(qy P T op).map (λq=>(q.2 h.length,h++[q.1]))=some (x,h')->Did P (execOp a.eval ⟨dst,op,type,pos,after,guard⟩) B w g h x h':=λC=>by
  cases ha:qy P T op with
  | none=>rw[ha] at C;cases C
  | some q=>
    obtain ⟨o,mk⟩:=q
    rw[ha] at C
    injection C with C
    injection C with hx1 hx2
    subst hx1 hx2
    obtain ⟨v,w',W,m⟩:=Vg H hB G ha dst type pos after guard
    obtain ⟨g',e2,e3⟩:=m.more H hB
    exact ⟨.value v,v,w',g',W,.inl rfl,e2,e3⟩
 unfold zt at C
 split at C
 case h_1 y=>
  injection C with C;injection C with hx1 hx2;subst hx1 hx2
  exact qD H hB (by simp[execOp]) (qJ G y)
 case h_2 y=>
  injection C with C;injection C with hx1 hx2;subst hx1 hx2
  exact qD H hB (by simp[execOp]) (qJ G y)
 case h_3 c y z=>
  split at C
  ·rename_i t J
   injection C with C;injection C with hx1 hx2;subst hx1 hx2
   have e:=wt G J
   cases t
   ·exact qD H hB (v:=a.eval z) (by simp[execOp,e,asBool]) (qJ G z)
   ·exact qD H hB (v:=a.eval y) (by simp[execOp,e,asBool]) (qJ G y)
  ·cases C
 case h_4 t=>exact alloc C
 case h_5 t y=>exact alloc C
 case h_6 t n ps=>exact alloc C
 case h_7 t l c=>exact alloc C
 case h_8 t r=>exact alloc C
 case h_9 t ps=>
  split at C
  ·rename_i fs D
   split at C
   ·rename_i M
    cases hz:(zl P t).zero with
    | none=>rw[hz] at C;cases C
    | some z=>
      rw[hz] at C
      simp only[Option.bind_some] at C
      cases J:vN (Jh P fs) (z.map .v) (evs T ps.toList) with
      | none=>rw[J] at C;cases C
      | some cs=>
        rw[J] at C
        injection C with C;injection C with hx1 hx2;subst hx1 hx2
        exact (vwa H hB G D M hz J).of rfl
   ·cases C
  ·rename_i m e D
   split at C
   ·rename_i M
    cases hz:(zl P t).zero with
    | none=>rw[hz] at C;cases C
    | some z=>
      rw[hz] at C
      simp only[Option.bind_some] at C
      cases J:vN (wB (zl P e).sz) (z.map .v) (evs T ps.toList) with
      | none=>rw[J] at C;cases C
      | some cs=>
        rw[J] at C
        injection C with C;injection C with hx1 hx2;subst hx1 hx2
        exact (WT H hB G D M hz J).of rfl
   ·cases C
  ·cases C
 case h_10 t p=>
  cases Q:ZE h (zl P t) (ev T p) with
  | none=>rw[Q] at C;cases C
  | some y=>
    rw[Q] at C
    injection C with C;injection C with hx1 hx2;subst hx1 hx2
    exact (qfa H hB (qJ G p) Q).of rfl
 case h_11 t p y=>
  split at C
  ·rename_i ht
   cases J:(ev T y).cells with
   | none=>rw[J] at C;cases C
   | some ns=>
     rw[J] at C
     simp only[Option.bind_some] at C
     split at C
     ·rename_i Q
      cases hs:wC h ns (ev T p) with
      | none=>rw[hs] at C;cases C
      | some h2=>
        rw[hs] at C
        injection C with C;injection C with hx1 hx2;subst hx1 hx2
        obtain ⟨w',g',W,e2⟩:=vxa H hB (qJ G p) (qJ G y) ht J Q hs
        exact ⟨.skip,undef,w',g',by simp[execOp,W],.inr ⟨rfl,rfl⟩,e2,rfl⟩
     ·cases C
  ·cases C
 case h_12 y=>
  have E:=qJ G y
  split at C
  ·rename_i id off K
   injection C with C;injection C with hx1 hx2;subst hx1 hx2
   rw[K] at E
   obtain ⟨q,e⟩:=E
   exact qD H hB (v:=a.eval y) (by simp[execOp,e]) ⟨q,e⟩
  ·rename_i c e i k K
   injection C with C;injection C with hx1 hx2;subst hx1 hx2
   rw[K] at E
   obtain ⟨A,m,cp,q1,q2,e⟩:=E
   exact qD H hB (v:=a.eval y) (by simp[execOp,e]) ⟨A,m,cp,q1,q2,e⟩
  ·rename_i f p q K
   injection C with C;injection C with hx1 hx2;subst hx1 hx2
   rw[K] at E
   obtain ⟨us,vs,e,q⟩:=E
   exact qD H hB (v:=a.eval y) (by simp[execOp,e]) ⟨us,vs,e,q⟩
  ·cases C
 case h_13 op t y z _=>
  split at C
  ·rename_i hn
   cases hb:qba P h op t (ev T y) with
   | none=>rw[hb] at C;cases C
   | some r=>
     rw[hb] at C
     injection C with C;injection C with hx1 hx2;subst hx1 hx2
     exact (QJa H hB G hn hb).of rfl
  ·cases hb:yda P op t (ev T y) (ev T z) with
   | none=>rw[hb] at C;cases C
   | some r=>
     rw[hb] at C
     injection C with C;injection C with hx1 hx2;subst hx1 hx2
     exact (QIa H hB G hb).of rfl
 case h_14 op _ y=>
  split at C
  ·rename_i k n K
   injection C with C;injection C with hx1 hx2;subst hx1 hx2
   have e:=wt G K
   exact qD H hB (by simp[execOp,e,Op.unary,Op.intArith]) rfl
  ·rename_i b K
   injection C with C;injection C with hx1 hx2;subst hx1 hx2
   have e:=wt G K
   exact qD H hB (by simp[execOp,e,Op.unary]) rfl
  ·cases C
 case h_15 s d y=>
  split at C
  ·rename_i k k' n hs hd K
   injection C with C;injection C with hx1 hx2;subst hx1 hx2
   have e:=wt G K
   obtain ⟨d1,i1,hu1,hi1,eq1⟩:=qr hs
   obtain ⟨d2,Z,O,N,I⟩:=qr (qv hd (by simp))
   rw[I] at hd
   cases d2<;>try (cases hd;done)
   injection hd with hd
   subst hd
   refine qD H hB (v:= .int _ (IntKind.wrap _ n)) ?_ rfl
   simp[execOp,e,convert,run_underlying hu1,run_underlying O,Conv.intToInt]
  ·rename_i rows hs hd K
   cases μ:yea P s rows with
   | none=>rw[μ] at C;cases C
   | some z=>
     rw[μ] at C
     injection C with C;injection C with hx1 hx2;subst hx1 hx2
     have E:=qJ G y
     rw[K] at E
     obtain ⟨u,hr,eu⟩:=yia H E hs hd μ
     exact qD H hB (v:=u) (by simp[execOp,hr]) eu
  ·cases C
 case h_16 f p q=>
  injection C with C;injection C with hx1 hx2;subst hx1 hx2
  refine qD H hB (v:= .func f (p.map a.eval) (q.map a.eval)) (by simp[execOp,Instr.makeFunc]) ⟨_,_,rfl,?_,?_⟩
  ·simpa using Jj G p.toList
  ·simpa using Jj G q.toList
 case h_17 t y i=>
  have E:=qJ G y
  split at C
  ·rename_i fs D
   cases M:fs[i]? with
   | none=>rw[M] at C;cases C
   | some f=>
     rw[M] at C
     simp only[Option.bind_some] at C
     split at C
     ·rename_i J
      obtain ⟨d,ii,R,X,eq⟩:=qr (qv D (by simp))
      rw[eq] at D
      cases d<;>try (cases D;done)
      rename_i fields
      injection D with D
      obtain ⟨d2,Z,O,N,I⟩:=qr J.1
      have ε:Z.size≠0:=by have:=J.2;rw[I] at this;simp at this;omega
      rw[<-D,List.getElem?_map] at M
      cases U:fields.toList[i]? with
      | none=>rw[U] at M;cases M
      | some F=>
        rw[U] at M
        injection M with M
        subst M
        have V:fields[i]? =some F:=by simpa using U
        split at C
        ·rename_i id off K
         injection C with C;injection C with hx1 hx2;subst hx1 hx2
         rw[K] at E
         obtain ⟨q,e⟩:=E
         refine qD H hB (v:= .pointer (some ⟨g.β id,off+F.offset,none⟩)) ?_ ⟨q,rfl⟩
         simp[execOp,e,Instr.fieldAt,run_underlying R,V,Instr.sureAddr,fieldPlace,sizeOf,typeInfo,N,ε,Addr.add_lit,ctx]
        ·rename_i c e' j k K
         injection C with C;injection C with hx1 hx2;subst hx1 hx2
         rw[K] at E
         obtain ⟨A,m,cp,q1,q2,e⟩:=E
         refine qD H hB (v:= .pointer (some (A.add (j*e'+(k+F.offset))))) ?_ ⟨A,m,cp,q1,q2,rfl⟩
         simp[execOp,e,Instr.fieldAt,run_underlying R,V,Instr.sureAddr,fieldPlace,sizeOf,typeInfo,N,ε,Addr.add_add,Nat.add_assoc]
        ·cases C
     ·cases C
  ·cases C
 case h_19 t y i=>
  have E:=qJ G y
  split at C
  ·rename_i e k n D K
   split at C
   ·rename_i J
    have W:=wt G K
    obtain ⟨d,ii,R,X,eq⟩:=qr (qv D (by simp))
    rw[eq] at D
    cases d<;>try (cases D;done)
    injection D with D
    subst D
    obtain ⟨d2,Z,O,N,I⟩:=qr J.1
    cases L:j4a h n (ev T y) with
    | none=>rw[L] at C;cases C
    | some z=>
      rw[L] at C
      injection C with C;injection C with hx1 hx2;subst hx1 hx2
      unfold j4a at L
      cases hr:zq h (ev T y) with
      | none=>rw[hr] at L;cases L
      | some xs=>
        rw[hr,J.2.2] at L
        simp only[Option.bind_some] at L
        split at L
        ·rename_i hn
         injection L with L
         subst L
         obtain ⟨A,cp,q1,q2,q3,_⟩:=kD H _ E hr
         have hra:=q3 _ J.2.2
         have ξ:n.toNat<xs.length:=by omega
         have hA:∃ad,A=some ad:=by
          have hrow:xs[n.toNat]? =some xs[n.toNat]:=List.getElem?_eq_getElem ξ
          have h0:=J.2.1
          have Q:=hra.len _ (List.getElem_mem ξ)
          obtain ⟨ad,u,z1,_⟩:=hra.cell _ 0 _ (nth xs[n.toNat] 0) hrow (yc (by omega))
          exact ⟨ad,z1⟩
         obtain ⟨ad,rfl⟩:=hA
         refine qD H hB (v:= .pointer (some (ad.add (n.toNat*Z.size)))) ?_ ⟨ad,xs.length,cp,by rw[<-q1];exact E,ξ,by rw[I,Nat.add_zero]⟩
         simp[execOp,W,q1,Instr.indexAt,asIntOf,run_underlying R,sizeOf,typeInfo,N,hn.1,hn.2]
        ·cases L
   ·cases C
  ·rename_i m e k n D K
   split at C
   ·rename_i J
    obtain ⟨c1,c2,c3⟩:=J
    have W:=wt G K
    obtain ⟨d,ii,R,X,eq⟩:=qr (qv D (by simp))
    rw[eq] at D
    cases d<;>try (cases D;done)
    injection D with hk1 hk2
    subst hk1 hk2
    obtain ⟨d2,Z,O,N,I⟩:=qr c1
    split at C
    ·rename_i id off υ
     injection C with C;injection C with hx1 hx2;subst hx1 hx2
     rw[υ] at E
     obtain ⟨q,e⟩:=E
     refine qD H hB (v:= .pointer (some ⟨g.β id,off+n.toNat*Z.size,none⟩)) ?_ ⟨q,by rw[I];rfl⟩
     simp[execOp,W,e,Instr.indexAt,asIntOf,run_underlying R,Instr.sureAddr,sizeOf,typeInfo,N,c2,c3,Addr.add_lit,ctx]
    ·rename_i c e' j k2 υ
     injection C with C;injection C with hx1 hx2;subst hx1 hx2
     rw[υ] at E
     obtain ⟨A,m',cp,q1,q2,e⟩:=E
     refine qD H hB (v:= .pointer (some (A.add (j*e'+(k2+n.toNat*Z.size))))) ?_ ⟨A,m',cp,q1,q2,by rw[I]⟩
     simp[execOp,W,e,Instr.indexAt,asIntOf,run_underlying R,Instr.sureAddr,sizeOf,typeInfo,N,c2,c3,Addr.add_add,Nat.add_assoc]
    ·cases C
   ·cases C
  ·cases C
 case h_18 t y i=>
  have E:=qJ G y
  split at C
  ·rename_i fs cs D K
   cases M:fs[i]? with
   | none=>rw[M] at C;cases C
   | some f=>
     rw[M] at C
     simp only[Option.bind_some] at C
     split at C
     ·rename_i ho
      obtain ⟨d,ii,R,X,eq⟩:=qr (qv D (by simp))
      rw[eq] at D
      cases d<;>try (cases D;done)
      rename_i fields
      injection D with D
      rw[<-D,List.getElem?_map] at M
      cases U:fields.toList[i]? with
      | none=>rw[U] at M;cases M
      | some F=>
        rw[U] at M
        injection M with M
        subst M
        have V:fields[i]? =some F:=by simpa using U
        rw[K] at E
        obtain ⟨vs,e,q⟩:=E
        cases hp:part cs F.offset (zl P F.type).agg (zl P F.type).sz with
        | none=>rw[hp] at C;cases C
        | some r=>
          rw[hp] at C
          injection C with C;injection C with hx1 hx2;subst hx1 hx2
          obtain ⟨u,z1,z2⟩:=qka (P:=P) (w:=w) ho q hp
          exact qD H hB (v:=u) (by simp[execOp,e,Instr.field,run_underlying R,V,asAgg,z1]) z2
     ·cases C
  ·cases C
 case h_20 t y i=>
  have E:=qJ G y
  split at C
  ·rename_i m e cs k n D K hi
   split at C
   ·rename_i J
    obtain ⟨c1,c2,c3⟩:=J
    have W:=wt G hi
    obtain ⟨d,ii,R,X,eq⟩:=qr (qv D (by simp))
    rw[eq] at D
    cases d<;>try (cases D;done)
    injection D with hk1 hk2
    subst hk1 hk2
    rename_i m e
    obtain ⟨d2,Z,O,N,I⟩:=qr c1
    rw[K] at E
    obtain ⟨vs,ee,q⟩:=E
    cases hp:part cs (n.toNat*(zl P e).sz) (zl P e).agg (zl P e).sz with
    | none=>rw[hp] at C;cases C
    | some r=>
      rw[hp] at C
      injection C with C;injection C with hx1 hx2;subst hx1 hx2
      obtain ⟨u,z1,z2⟩:=qka (P:=P) (w:=w) c1 q hp
      have ε:(zl P e).sz=Z.size:=by rw[I]
      rw[ε] at z1
      exact qD H hB (v:=u) (by simp[execOp,W,ee,Instr.index,asIntOf,run_underlying R,sizeOf,typeInfo,N,c2,c3,z1]) z2
   ·cases C
  ·cases C
 case h_21 t y lo hi=>
  split at C
  ·rename_i e D
   cases hr:zq h (ev T y) with
   | none=>rw[hr] at C;cases C
   | some xs=>
     rw[hr] at C
     simp only[Option.bind_some] at C
     cases Q:yf T 0 lo with
     | none=>rw[Q] at C;cases C
     | some l=>
       rw[Q] at C
       simp only[Option.bind_some] at C
       cases hm:yf T xs.length hi with
       | none=>rw[hm] at C;cases C
       | some m=>
         rw[hm] at C
         simp only[Option.bind_some] at C
         split at C
         ·rename_i J
          obtain ⟨c1,c2,c3,c4,c5⟩:=J
          injection C with C;injection C with hx1 hx2;subst hx1 hx2
          exact (vza H hB G D hr Q hm c1 c2 c3 c4 c5).of rfl
         ·cases C
  ·cases C
 case h_22 t m k v=>
  split at C
  ·rename_i kt et id kk n D hm Y
   split at C
   ·rename_i kk' es S ho
    split at C
    ·rename_i heq
     subst heq
     cases hi:ZL kk' n (ev T v) es with
     | none=>rw[hi] at C;cases C
     | some es'=>
       rw[hi] at C
       injection C with C;injection C with hx1 hx2;subst hx1 hx2
       obtain ⟨d,ii,R,X,eq⟩:=qr (qv D (by simp))
       rw[eq] at D
       cases d<;>try (cases D;done)
       injection D with hk1 hk2
       subst hk1 hk2
       obtain ⟨d2,Z,O,hin2,I⟩:=qr (qv S (by simp))
       rw[I] at S
       cases d2<;>try (cases S;done)
       have W:=wt G Y
       have E:=qJ G m
       rw[hm] at E
       obtain ⟨q,e2⟩:=E
       obtain ⟨w',r1,r2⟩:=j9a (P:=P) H hB R O ho (qJ G v) hi
       refine ⟨.skip,undef,w',g,?_,.inr ⟨rfl,rfl⟩,r2,rfl⟩
       simp only[execOp,W,e2]
       have e3:(ctx w g h).β id=g.β id:=rfl
       rw[e3,Sem.run_bind,r1]
       rfl
    ·cases C
   ·cases C
  ·cases C
 case h_23 t m k ok=>
  split at C
  ·rename_i kt et id kk n D hm Y
   split at C
   ·rename_i kk' es z S ho hz
    split at C
    ·rename_i heq
     subst heq
     cases Q:qca kk' n z es with
     | none=>rw[Q] at C;cases C
     | some p=>
       rw[Q] at C
       injection C with C;injection C with hx1 hx2;subst hx1 hx2
       unfold qca at Q
       split at Q
       ·rename_i hko
        injection Q with Q
        subst Q
        obtain ⟨d,ii,R,X,eq⟩:=qr (qv D (by simp))
        rw[eq] at D
        cases d<;>try (cases D;done)
        injection D with hk1 hk2
        subst hk1 hk2
        obtain ⟨d2,Z,O,hin2,I⟩:=qr (qv S (by simp))
        rw[I] at S
        cases d2<;>try (cases S;done)
        have W:=wt G Y
        have E:=qJ G m
        rw[hm] at E
        obtain ⟨q,e2⟩:=E
        obtain ⟨zu,z1,z2⟩:=yha (P:=P) (w:=w) (c:=ctx w g h) hz
        obtain ⟨p1,es0,k0,l',p2,p3,p4,p5⟩:=H.ok id _ ho
        obtain ⟨u,u1,u2⟩:=Vk (P:=P) (n:=n) (ok:=ok) R O p2 p3 p4 p5 hko z1 z2
        refine qD H hB (v:=u) ?_ u2
        simp only[execOp,W,e2,Sem.run_bind,u1]
        rfl
       ·cases Q
    ·cases C
   ·cases C
  ·cases C
 case h_24 y i=>
  have E:=qJ G y
  split at C
  ·rename_i cs K
   split at C
   ·rename_i hi
    injection C with C;injection C with hx1 hx2;subst hx1 hx2
    rw[K] at E
    obtain ⟨vs,e,q⟩:=E
    obtain ⟨u,q1,q2⟩:=vM q i hi
    have q1':vs[i]? =some u:=by simpa using q1
    exact qD H hB (v:=u) (by simp[execOp,e,Instr.extract,q1']) q2
   ·cases C
  ·cases C
 case h_25 c=>exact yja H hB G C
 case h_26=>cases C
end
section
variable {φ:Nat->Ob} {h h':List Ob} {P:Program} {x:AV} {T:Nat->AV} {i:Nat} {o:Ob}
theorem wD:∀(a:AV) {e:Nat},eOf h a=some e->eOf (fill φ h) a=some e
 | .sl _ _,_,b=>b
 | .tl id st,e,b=>by
   simp only[eOf] at b⊢
   split at b
   ·rename_i ty j ys s d
    rw[zN d rfl]
    exact b
   ·cases b
 | .vw a f i n,e,b=>by
   simp only[eOf] at b⊢
   cases c:eOf h a with
   | none=>rw[c] at b;cases b
   | some g=>rw[c] at b;rw[wD a c];exact b
 | .v _,_,b | .em,_,b | .ptr _ _,_,b | .ep _ _ _ _,_,b | .mp _,_,b | .ag _,_,b | .tup _,_,b | .fn _ _ _,_,b | .bad,_,b=>by cases b
theorem jA:∀(a:AV) {xs:List (List AV)},zq h a=some xs->zq (fill φ h) a=some xs
 | .sl _ _,_,b=>b
 | .em,_,b=>b
 | .tl id st,xs,b=>by
   simp only[zq] at b⊢
   split at b
   ·rename_i ty g ys s f
    rw[zN f rfl]
    exact b
   ·cases b
 | .vw a e i n,xs,b=>by
   simp only[zq] at b⊢
   cases c:zq h a with
   | none=>rw[c] at b;cases b
   | some ys=>
     rw[c] at b
     rw[jA a c]
     simp only[Option.bind_some] at b⊢
     split at b
     ·rename_i d
      rw[if_pos ⟨d.1,d.2.imp id (wD a)⟩]
      exact b
     ·cases b
 | .v x,xs,b=>by
   unfold zq at b⊢
   split at b
   ·rename_i heq;cases heq
   ·rename_i heq;cases heq
   ·rename_i heq;cases heq
   ·rename_i heq;cases heq;exact b
   ·rename_i heq;cases heq
   ·cases b
 | .ptr _ _,_,b | .ep _ _ _ _,_,b | .mp _,_,b | .ag _,_,b | .tup _,_,b | .fn _ _ _,_,b | .bad,_,b=>by cases b
theorem qla (a:AV) (b:Ji h a=true):Ji (fill φ h) a=true:=by
 unfold Ji at b⊢
 rw[Bool.or_eq_true] at b⊢
 refine b.imp id λb=>?_
 cases c:zq h a with
 | none=>rw[c] at b;cases b
 | some xs=>cases d:eOf h a with
   | none=>rw[c,d] at b;cases xs<;>cases b
   | some e=>rw[c,d] at b;rw[jA a c,wD a d];exact b
theorem vBa {op:BinOp} {t:TypeId} (a:AV) (b:qba P h op t a=some x):qba P (fill φ h) op t a=some x:=by
 unfold qba at b⊢
 cases e:(zl P t).kind<;>rw[e] at b<;>first
  | cases b;done
  | skip
 simp only at b⊢
 cases d:xA a with
 | true=>rw[d] at b;exact b
 | false=>
   rw[d] at b
   simp only[Bool.false_eq_true,if_false] at b⊢
   split at b
   ·rename_i c
    rw[if_pos (qla _ c)];exact b
   ·cases b
theorem Vl {τ:Ty}:∀(a:AV),ZE h τ a=some x->ZE (fill φ h) τ a=some x
 | .ptr id off,b=>by
   simp only[ZE] at b⊢
   split at b
   ·rename_i f
    simp only[zN f rfl]
    exact b
   ·cases b
 | .ep a e i k,b=>by
   simp only[ZE] at b⊢
   split at b
   ·rename_i d
    rw[if_pos ⟨d.1,wD _ d.2⟩]
    cases c:zq h a with
    | none=>rw[c] at b;cases b
    | some xs=>rw[c] at b;rw[jA _ c];exact b
   ·cases b
 | .sl _ _,b | .tl _ _,b | .em,b | .vw _ _ _ _,b | .v _,b | .mp _,b | .ag _,b | .tup _,b | .fn _ _ _,b | .bad,b=>by cases b
theorem vCa {n:Int} (a:AV) (b:j4a h n a=some x):j4a (fill φ h) n a=some x:=by
 unfold j4a at b⊢
 cases d:zq h a with
 | none=>rw[d] at b;cases b
 | some xs=>
   rw[d] at b
   cases c:eOf h a with
   | none=>rw[c] at b;cases b
   | some e=>rw[c] at b;rw[jA a d,wD a c];exact b
theorem qma {ns:List AV}:∀(a:AV),wC h ns a=some h'->wC (fill φ h) ns a=some (fill φ h')/\ResK h h'
 | .ptr id off,b=>by
   simp only[wC] at b⊢
   split at b
   ·rename_i ty cs c
    simp only[zN c rfl]
    cases d:lay cs off ns with
    | none=>rw[d] at b;cases b
    | some cs'=>
      rw[d] at b
      injection b with b
      subst b
      exact ⟨by rw[qn rfl];rfl,zC c rfl⟩
   ·cases b
 | .ep (.tl id st) e i k,b=>by
   simp only[wC] at b⊢
   split at b
   ·rename_i ty l xs s c
    simp only[zN c rfl]
    split at b
    ·rename_i g
     rw[if_pos g]
     cases f:xs[i]? with
     | none=>rw[f] at b;cases b
     | some r=>
       rw[f] at b
       simp only[Option.bind_some] at b⊢
       cases d:lay r k ns with
       | none=>rw[d] at b;cases b
       | some j=>
         rw[d] at b
         injection b with b
         subst b
         exact ⟨by rw[qn rfl];rfl,zC c rfl⟩
    ·cases b
   ·cases b
 | .ep (.sl _ _) _ _ _,b | .ep .em _ _ _,b | .ep (.vw _ _ _ _) _ _ _,b | .ep (.v _) _ _ _,b | .ep (.ptr _ _) _ _ _,b | .ep (.ep _ _ _ _) _ _ _,b | .ep (.mp _) _ _ _,b | .ep (.ag _) _ _ _,b | .ep (.tup _) _ _ _,b | .ep (.fn _ _ _) _ _ _,b | .ep .bad _ _ _,b=>by cases b
 | .sl _ _,b | .tl _ _,b | .em,b | .vw _ _ _ _,b | .v _,b | .mp _,b | .ag _,b | .tup _,b | .fn _ _ _,b | .bad,b=>by cases b
theorem zka (g:Upto φ h.length) {e:TypeId} (s y:AV) (a:y8 P h e s y=some (x,h')):y8 P (fill φ h) e s y=some (x,fill φ h')/\ResK h h':=by
 unfold y8 at a⊢
 cases c:zq h y with
 | none=>simp[c] at a
 | some ys=>
   rw[jA y c]
   simp only[c,Option.bind_some] at a⊢
   split at a
   ·rename_i f
    rw[if_pos f]
    split at a
    ·split at a
     ·rename_i id st ty i xs s d
      simp only[zN d rfl]
      split at a
      ·rename_i b
       rw[if_pos b]
       injection a with a
       injection a with h1 h2
       subst h1 h2
       exact ⟨by rw[qn rfl],zC d rfl⟩
      ·cases a
     ·cases a
    ·split at a
     ·rename_i b
      simp only[if_pos b]
      injection a with a
      injection a with h1 h2
      subst h1 h2
      exact ⟨by rw[qR g,qm],zR⟩
     ·cases a
    ·cases a
   ·cases a
theorem JX {q:Nat × Nat × Nat × Nat}:∀(y:AV),xf h y=some q->xf (fill φ h) y=some q
 | .tl id st,a=>by
   simp only[xf] at a⊢
   split at a
   ·rename_i b;simp only[zN b rfl];exact a
   ·cases a
 | .vw (.tl id st) e i n,a=>by
   simp only[xf] at a⊢
   split at a
   ·rename_i b;simp only[zN b rfl];exact a
   ·cases a
 | .vw (.sl _ _) _ _ _,a | .vw .em _ _ _,a | .vw (.vw _ _ _ _) _ _ _,a | .vw (.v _) _ _ _,a | .vw (.ptr _ _) _ _ _,a | .vw (.ep _ _ _ _) _ _ _,a | .vw (.mp _) _ _ _,a | .vw (.ag _) _ _ _,a | .vw (.tup _) _ _ _,a | .vw (.fn _ _ _) _ _ _,a | .vw .bad _ _ _,a=>by cases a
 | .sl _ _,a | .em,a | .ptr _ _,a | .ep _ _ _ _,a | .v _,a | .mp _,a | .ag _,a | .tup _,a | .fn _ _ _,a | .bad,a=>by cases a
theorem JY {id i ty e:Nat} {ys:List (List AV)} (a:xJ h id i ty e ys=some h'):xJ (fill φ h) id i ty e ys=some (fill φ h')/\ResK h h':=by
 unfold xJ at a⊢
 split at a
 ·rename_i b
  simp only[zN b rfl]
  split at a
  ·rename_i c
   rw[if_pos c]
   injection a with a
   subst a
   exact ⟨by rw[qn rfl],zC b rfl⟩
  ·cases a
 ·cases a
theorem xaa (s:Upto φ h.length) (c:Call) (a:yE P T h c=some (x,h')):yE P T (fill φ h) c=some (x,fill φ h')/\ResK h h':=by
 unfold yE at a⊢
 split at a
 ·split at a
  ·rename_i e f
   cases d:zq h (ev T _) with
   | none=>rw[d] at a;cases a
   | some xs=>
     rw[d] at a
     injection a with a;injection a with h1 b;subst h1 b
     simp only[f,jA _ d]
     exact ⟨rfl,.refl⟩
  ·cases a
 ·split at a
  ·rename_i e f
   split at a
   ·rename_i r
    simp only[f,if_pos r]
    exact zka s _ _ a
   ·cases a
  ·cases a
 ·split at a
  ·rename_i e f
   cases g:xf h (ev T _) with
   | none=>rw[g] at a;cases a
   | some q=>
     obtain ⟨id,st,i,n⟩:=q
     rw[g] at a
     simp only[Option.bind_some] at a
     cases m:(zl P e).zero with
     | none=>rw[m] at a;cases a
     | some z=>
       rw[m] at a
       simp only[Option.bind_some] at a
       split at a
       ·rename_i k
        cases d:xJ h id i e (zl P e).sz (List.replicate n (z.map .v)) with
        | none=>rw[d] at a;cases a
        | some b=>
          rw[d] at a
          injection a with a;injection a with h1 b;subst h1 b
          obtain ⟨l,o⟩:=JY (φ:=φ) d
          simp only[f,JX _ g,Option.bind_some,m,if_pos k,l]
          exact ⟨rfl,o⟩
       ·cases a
  ·cases a
 ·split at a
  ·rename_i e f
   split at a
   ·rename_i k
    cases g:xf h (ev T _) with
    | none=>rw[g] at a;cases a
    | some q=>
      obtain ⟨id,st,i,n⟩:=q
      rw[g] at a
      simp only[Option.bind_some] at a
      cases p:zq h (ev T _) with
      | none=>rw[p] at a;cases a
      | some ys=>
        rw[p] at a
        simp only[Option.bind_some] at a
        cases d:xJ h id i e (zl P e).sz (ys.take n) with
        | none=>rw[d] at a;cases a
        | some b=>
          rw[d] at a
          injection a with a;injection a with h1 b;subst h1 b
          obtain ⟨l,o⟩:=JY (φ:=φ) d
          simp only[f,if_pos k,JX _ g,Option.bind_some,jA _ p,l]
          exact ⟨rfl,o⟩
   ·cases a
  ·cases a
 ·cases j:z9a _ _ with
  | none=>rw[j] at a;cases a
  | some y=>
    rw[j] at a
    injection a with a;injection a with h1 b;subst h1 b
    exact ⟨rfl,.refl⟩
 ·cases j:qaa _ _ with
  | none=>rw[j] at a;cases a
  | some y=>
    rw[j] at a
    injection a with a;injection a with h1 b;subst h1 b
    exact ⟨rfl,.refl⟩
 ·cases a
theorem qna {op:Op} {mk:Nat->AV} (a:qy P T op=some (o,mk)):o.isRes=false:=by
 unfold qy at a
 repeat' split at a
 all_goals first
  | cases a;done
  | (simp only[Option.map_eq_some_iff,Prod.mk.injEq] at a;obtain ⟨_,_,rfl,_⟩:=a;rfl)
  | (injection a with a;injection a with h1 h2;subst h1;rfl)
theorem jp {α:Type} {y:Option α} {f:α->AV} (b:(y.map λa=>(f a,h))=some (x,h')):∃a,y=some a/\f a=x/\h=h':=by
 cases y with
 | none=>cases b
 | some a=>injection b with b;injection b with h1 h2;exact ⟨a,rfl,h1,h2⟩
theorem yi (J:Upto φ h.length) (op:Op) (b:zt P T h op=some (x,h')):zt P T (fill φ h) op=some (x,fill φ h')/\ResK h h':=by
 have alloc:∀s,(qy P T s).map (λq=>(q.2 h.length,h++[q.1]))=some (x,h')->(qy P T s).map (λq=>(q.2 (fill φ h).length,fill φ h++[q.1]))=some (x,fill φ h')/\ResK h h':=λs b=>by
  cases K:qy P T s with
  | none=>rw[K] at b;cases b
  | some q=>
    rw[K] at b
    injection b with b;injection b with g d;subst g d
    exact ⟨by rw[qR J,qm];rfl,zR⟩
 have same:∀ {y:AV},some (y,h)=some (x,h')->some (y,fill φ h)=some (x,fill φ h')/\ResK h h':=λe=>by
  injection e with e;injection e with g d;subst g d;exact ⟨rfl,.refl⟩
 cases op with
 | move y=>exact same b
 | assign y=>exact same b
 | makeFunc f p q=>exact same b
 | alloc t=>exact alloc _ b
 | box t y=>exact alloc _ b
 | buildSlice t n E=>exact alloc _ b
 | makeSlice t l c=>exact alloc _ b
 | makeMap t r=>exact alloc _ b
 | call c=>exact xaa J c b
 | load t y=>
   obtain ⟨a,g,d,o⟩:=jp b
   subst d o
   exact ⟨by simp only[zt,Vl _ g];rfl,.refl⟩
 | store t y z=>
   simp only[zt] at b⊢
   split at b
   ·rename_i M
    cases j:(ev T z).cells with
    | none=>rw[j] at b;cases b
    | some ns=>
      rw[j] at b
      simp only[Option.bind_some] at b
      split at b
      ·rename_i w
       cases D:wC h ns (ev T y) with
       | none=>rw[D] at b;cases b
       | some d=>
         rw[D] at b
         injection b with b;injection b with g d;subst g d
         obtain ⟨L,N⟩:=qma (φ:=φ) _ D
         exact ⟨by simp only[if_pos M,j,Option.bind_some,if_pos w,L];rfl,N⟩
      ·cases b
   ·cases b
 | binOp op t y z u=>
   simp only[zt] at b⊢
   split at b
   ·rename_i G
    obtain ⟨a,g,d,o⟩:=jp b
    subst d o
    exact ⟨by simp only[if_pos G,vBa _ g];rfl,.refl⟩
   ·rename_i G
    obtain ⟨a,g,d,o⟩:=jp b
    subst d o
    exact ⟨by simp only[if_neg G,g];rfl,.refl⟩
 | indexAddr t y z=>
   simp only[zt] at b⊢
   split at b
   ·split at b
    ·rename_i j
     obtain ⟨a,g,d,o⟩:=jp b
     subst d o
     exact ⟨by simp only[if_pos (show _/\_/\_ from ⟨j.1,j.2.1,wD (φ:=φ) _ j.2.2⟩),vCa _ g];rfl,.refl⟩
    ·cases b
   ·split at b
    ·rename_i j
     simp only[if_pos j]
     split at b
     ·exact same b
     ·exact same b
     ·cases b
    ·cases b
   ·cases b
 | slice t y lo C Q=>
   cases Q with
   | some m=>cases b
   | none=>
     simp only[zt] at b⊢
     split at b
     ·rename_i e R
      cases H:zq h (ev T y) with
      | none=>rw[H] at b;cases b
      | some xs=>
        rw[H] at b
        simp only[jA _ H,Option.bind_some] at b⊢
        cases w:yf T 0 lo with
        | none=>rw[w] at b;cases b
        | some l=>
          rw[w] at b
          simp only[Option.bind_some] at b⊢
          cases I:yf T xs.length C with
          | none=>rw[I] at b;cases b
          | some m=>
            rw[I] at b
            simp only[Option.bind_some] at b⊢
            split at b
            ·rename_i j
             rw[if_pos ⟨j.1,j.2.1,j.2.2.1,j.2.2.2.1,j.2.2.2.2.imp id λk=>⟨k.1,wD _ k.2⟩⟩]
             exact same b
            ·cases b
     ·cases b
 | insert t m k v=>
   simp only[zt] at b⊢
   split at b
   ·split at b
    ·rename_i kk' es A B
     simp only[zN B rfl]
     split at b
     ·rename_i heq
      simp only[A,if_pos heq]
      cases C:ZL _ _ (ev T v) es with
      | none=>rw[C] at b;cases b
      | some es'=>
        rw[C] at b
        injection b with b;injection b with g d;subst g d
        exact ⟨by rw[qn rfl];rfl,zC B rfl⟩
     ·cases b
    ·cases b
   ·cases b
 | lookup t m k ok=>
   simp only[zt] at b⊢
   split at b
   ·split at b
    ·rename_i kk' es z A B O
     simp only[zN B rfl,O]
     split at b
     ·rename_i heq
      simp only[A,if_pos heq]
      cases w:qca _ _ z es with
      | none=>rw[w] at b;cases b
      | some p=>
        rw[w] at b
        exact same b
     ·cases b
    ·cases b
   ·cases b
 | build t E=>
   have h0:∀h,zt P T h (.build t E)=(zt P T [] (.build t E)).map λq=>(q.1,h):=λh=>by
    simp only[zt]
    split
    ·split
     ·cases (zl P t).zero with
      | none=>rfl
      | some z=>simp only[Option.bind_some];cases vN _ _ _<;>rfl
     ·rfl
    ·split
     ·cases (zl P t).zero with
      | none=>rfl
      | some z=>simp only[Option.bind_some];cases vN _ _ _<;>rfl
     ·rfl
    ·rfl
   rw[h0] at b⊢
   obtain ⟨a,g,d,o⟩:=jp b
   subst d o
   exact ⟨by rw[g];rfl,.refl⟩
 | fieldAddr t y i=>
   have h0:∀h,zt P T h (.fieldAddr t y i)=(zt P T [] (.fieldAddr t y i)).map λq=>(q.1,h):=λh=>by
    simp only[zt]
    split
    ·rename_i F _
     cases F[i]? with
     | none=>rfl
     | some f=>
       simp only[Option.bind_some]
       split
       ·split<;>rfl
       ·rfl
    ·rfl
   rw[h0] at b⊢
   obtain ⟨a,g,d,o⟩:=jp b
   subst d o
   exact ⟨by rw[g];rfl,.refl⟩
 | field t y i=>
   have h0:∀h,zt P T h (.field t y i)=(zt P T [] (.field t y i)).map λq=>(q.1,h):=λh=>by
    simp only[zt]
    split
    ·rename_i F _ _ _
     cases F[i]? with
     | none=>rfl
     | some f=>
       simp only[Option.bind_some]
       split
       ·cases part _ _ _ _<;>rfl
       ·rfl
    ·rfl
   rw[h0] at b⊢
   obtain ⟨a,g,d,o⟩:=jp b
   subst d o
   exact ⟨by rw[g];rfl,.refl⟩
 | _=>
   simp only[zt] at b⊢
   try cases b
   all_goals (repeat' split at b)
   all_goals first
    | cases b;done
    | exact same b
    | (obtain ⟨a,g,d,o⟩:=jp b;subst d o;exact ⟨by simp only[g];rfl,.refl⟩)
    | (rename_i j;rw[if_pos j];exact same b)
    | (rename_i j;rw[if_neg j];exact same b)
    | (rename_i j;rw[if_pos j];obtain ⟨a,g,d,o⟩:=jp b;subst d o;exact ⟨by simp only[g];rfl,.refl⟩)
end
end Go.Proofs.YtfmldcilgbbimaaGreat.Ax
