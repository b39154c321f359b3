/-
  Joined.
-/
import Derived.Test.YtfmldcilgbbimaaGreatK01
import Derived.Laws.Pointers
import Derived.WalkSpells
import Derived.ChangeKeysEq
import Derived.Laws.BytesString
import Derived.Laws.Cells
set_option linter.unusedSimpArgs false
set_option linter.unusedVariables false
namespace Go.Proofs.YtfmldcilgbbimaaGreat.Ax
open Go Go.RowKit
section
variable {B:Nat} {w:World} {g:Gh} {h h':List Ob} {P:Program} {x:AV} {T:Nat->AV} {a:Act}
theorem Z8 (d:Nat):∀(l:List Field) (o:Nat) (xs ys:List AV) (us vs:List Value) (U V:Array Value) (r:Bool),
  xZ P o (l.map λf=>(f.offset,f.type))=true->(l.all λf=>f.name != "_")=true->xs.length=l.length->jo xs ys=some r->ARs (ctx w g h) xs us->ARs (ctx w g h) ys vs->
  (∀j,us[j]? =U[o+j]?)->(∀j,vs[j]? =V[o+j]?)->(Op.eqFields (d+1) U V l).run P w= .ok r w
 | [],o,xs,ys,us,vs,U,V,r,_,_,z,a,_,_,_,_=>by
   have:xs=[]:=List.eq_nil_of_length_eq_zero z
   subst this
   cases ys with
   | nil=>injection a with a;subst a;simp[Op.eqFields]
   | cons y ys=>cases a
 | f::l,o,xs,ys,us,vs,U,V,r,t,K,z,a,Y,T,L,M=>by
   cases xs with
   | nil=>cases z
   | cons x xs=>
     cases ys with
     | nil=> cases x<;>try (cases a;done)
             rename_i v;cases v<;>cases a
     | cons y ys=>
       cases x<;>try (cases a;done)
       rename_i x
       cases x<;>try (cases a;done)
       rename_i k m
       cases y<;>try (cases a;done)
       rename_i y
       cases y<;>try (cases a;done)
       rename_i k' s
       simp only[jo] at a
       split at a
       ·rename_i Q
        subst Q
        cases G:jo xs ys with
        | none=>rw[G] at a;cases a
        | some O=>
          rw[G] at a
          injection a with a
          obtain ⟨u,E,D,i,B⟩:=Y
          obtain ⟨v,H,A,c,I⟩:=T
          have i:u= .int k m:=i
          have c:v= .int k s:=c
          subst i c D A
          simp only[List.map_cons,xZ,Bool.and_eq_true,beq_iff_eq] at t
          obtain ⟨⟨N,q⟩,t⟩:=t
          simp only[List.all_cons,Bool.and_eq_true] at K
          cases b:(zi P f.type).kind<;>rw[b] at q<;>try (cases q;done)
          rename_i kk
          obtain ⟨R,ii,e,S,eq⟩:=qa (qb b (by simp))
          rw[eq] at b
          cases R<;>try (cases b;done)
          rename_i k2
          have n:=L 0
          have p:=M 0
          simp only[List.getElem?_cons_zero,Nat.add_zero] at n p
          have C:(_root_.Go.part f.type U f.offset).run P w= .ok (.int k m) w:=by
           simp[Go.part,isAgg,run_underlying e,N, <-n]
          have F:(_root_.Go.part f.type V f.offset).run P w= .ok (.int k s) w:=by
           simp[Go.part,isAgg,run_underlying e,N, <-p]
          have X:=Z8 d l (o+1) xs ys E H U V O t K.2 (by simpa using z) G B I
           (λj=>by have:=L (j+1);rw[show o+1+j=o+(j+1) by omega];simpa using this) (λj=>by have:=M (j+1);rw[show o+1+j=o+(j+1) by omega];simpa using this)
          have J:f.name≠ "_" :=by simpa using K.1
          simp only[Op.eqFields,J,ne_eq,not_false_eq_true,if_true,Sem.run_bind,C,F,Result.andThen_ok,run_equalIn_int w d f.type k k2 m s e,Sem.run_ite,Sem.run_pure,X]
          cases W:(m==s)<;>simp[<-a,W]
       ·cases a
theorem KD (p:kN (ctx w g h) T a) {t:TypeId} {X Y:Operand} {xs ys:List AV} {l:List (Nat × TypeId)} {b:Bool} (q:ev T X= .ag xs) (v:ev T Y= .ag ys) (c:(zi P t).kind= .struct l) (e:q9 P t=true) (n:xZ P 0 l=true) (y:xs.length=l.length) (s:jo xs ys=some b):
  ∃U V,a.eval X= .agg U/\a.eval Y= .agg V/\(Op.equalIn 10000 t (.agg U) (.agg V)).run P w= .ok b w/\P.eqGuardType P.depth t=false:=by
 have f:=qu p X
 have k:=qu p Y
 rw[q] at f
 rw[v] at k
 obtain ⟨U,x,f⟩:=f
 obtain ⟨V,r,k⟩:=k
 obtain ⟨d,i,o,u,eq⟩:=qa (qb c (by simp))
 rw[eq] at c
 cases d<;>try (cases c;done)
 rename_i fields
 injection c with c
 simp only[q9,Bool.and_eq_true,Bool.not_eq_true'] at e
 have m:P.fieldsOf t=fields:=by simp[Program.fieldsOf,o]
 rw[m] at e
 refine ⟨U,V,x,r,?_,e.1.1⟩
 rw[run_equalIn_struct (P:=P) w 9999 t U V (by rw[m];exact o) e.1.2,m]
 exact Z8 (g:=g) (h:=h) 9998 fields.toList 0 xs ys U.toList V.toList U V b (by rw[<-c] at n;exact n) e.2 (by rw[y, <-c];simp) s f k (λj=>by simp) (λj=>by simp)
theorem Jc (d:Nat) {e:TypeId} {k2:IntKind} (b:P.underlying e=some (.int k2)):∀(xs ys:List AV) (o:Nat) (us vs:List Value) (U V:Array Value) (r:Bool),jo xs ys=some r->ARs (ctx w g h) xs us->ARs (ctx w g h) ys vs->(∀j,us[j]? =U[o+j]?)->(∀j,vs[j]? =V[o+j]?)->
  (Op.eqItems (d+1) e 1 U V (List.range' o xs.length)).run P w= .ok r w
 | [],ys,o,us,vs,U,V,r,a,H,G,q,F=>by
   cases ys with
   | nil=>injection a with a;subst a;rfl
   | cons y ys=>cases a
 | x::xs,ys,o,us,vs,U,V,r,a,H,G,q,F=>by
   cases ys with
   | nil=> cases x<;>try (cases a;done)
           rename_i v;cases v<;>cases a
   | cons y ys=>
     cases x<;>try (cases a;done)
     rename_i x
     cases x<;>try (cases a;done)
     rename_i k m
     cases y<;>try (cases a;done)
     rename_i y
     cases y<;>try (cases a;done)
     rename_i k' n
     simp only[jo] at a
     split at a
     ·rename_i J
      subst J
      cases C:jo xs ys with
      | none=>rw[C] at a;cases a
      | some I=>
        rw[C] at a
        injection a with a
        obtain ⟨u,A,z,f,s⟩:=H
        obtain ⟨v,D,p,c,E⟩:=G
        have f:u= .int k m:=f
        have c:v= .int k n:=c
        subst f c z p
        have i:=q 0
        have l:=F 0
        simp only[List.getElem?_cons_zero,Nat.add_zero] at i l
        have t:(_root_.Go.part e U (o*1)).run P w= .ok (.int k m) w:=by
         simp[Go.part,isAgg,run_underlying b, <-i]
        have B:(_root_.Go.part e V (o*1)).run P w= .ok (.int k n) w:=by
         simp[Go.part,isAgg,run_underlying b, <-l]
        have L:=Jc d b xs ys (o+1) A D U V I C s E
         (λj=>by have:=q (j+1);rw[show o+1+j=o+(j+1) by omega];simpa using this) (λj=>by have:=F (j+1);rw[show o+1+j=o+(j+1) by omega];simpa using this)
        rw[List.length_cons,List.range'_succ]
        simp only[Op.eqItems,Sem.run_bind,t,B,Result.andThen_ok,run_equalIn_int w d e k k2 m n b,Sem.run_ite,Sem.run_pure,L]
        cases K:(m==n)<;>simp[<-a,K]
     ·cases a
theorem yCa (v:kN (ctx w g h) T a) {t e:TypeId} {n:Nat} {X Y:Operand} {xs ys:List AV} {b:Bool} (D:ev T X= .ag xs) (J:ev T Y= .ag ys) (o:(zi P t).kind= .arr n e) (z:q9 P t=true) (x:vBa P e=true) (E:xs.length=n) (F:jo xs ys=some b):
  ∃U V,a.eval X= .agg U/\a.eval Y= .agg V/\(Op.equalIn 10000 t (.agg U) (.agg V)).run P w= .ok b w/\P.eqGuardType P.depth t=false:=by
 have q:=qu v X
 have p:=qu v Y
 rw[D] at q
 rw[J] at p
 obtain ⟨U,H,q⟩:=q
 obtain ⟨V,A,p⟩:=p
 obtain ⟨d,i,G,C,eq⟩:=qa (qb o (by simp))
 rw[eq] at o
 cases d<;>try (cases o;done)
 rename_i n' y
 injection o with hk1 hk2
 subst hk1
 subst hk2
 simp only[q9,Bool.and_eq_true,Bool.not_eq_true'] at z
 simp only[vBa,Bool.and_eq_true,beq_iff_eq] at x
 obtain ⟨m,c⟩:=x
 cases f:(zi P y).kind<;>rw[f] at m<;>try (cases m;done)
 rename_i k
 obtain ⟨I,B,s,l,u⟩:=qa (qb f (by simp))
 rw[u] at f c
 cases I<;>try (cases f;done)
 have r:P.cellsOf y=1:=by
  have c:B.size=1:=c
  simp[Program.cellsOf,l,c]
 refine ⟨U,V,H,A,?_,z.1.1⟩
 rw[run_equalIn_array (P:=P) w 9999 U V G l,r,List.range_eq_range', <-E]
 exact Jc (g:=g) (h:=h) 9998 s xs ys 0 U.toList V.toList U V b F q p (λj=>by simp) (λj=>by simp)
theorem vDa (z:HOk B w g h) (hB:B<=w.heap.size) (u:kN (ctx w g h) T a) {op:BinOp} {t:TypeId} {X Y:Operand} (c:xja P op t (ev T X) (ev T Y)=some x):
  DidV P (do eqGuard op t X Y (a.eval X) (a.eval Y);binOp op t (a.eval X) (a.eval Y)) B w g h x h:=by
 unfold xja at c
 split at c
 ·rename_i k m k' n r s
  have l:=vu u r
  have j:=vu u s
  have H:(eqGuard op t X Y (.int k m) (.int k' n)).run P w= .ok () w:=by cases op<;>simp[eqGuard]
  split at c
  ·split at c
   ·rename_i I
    have G:¬ n<0:=by omega
    rw[l,j]
    cases op<;>simp only[YG] at c<;>first
     | cases c;done
     | (injection c with c
        subst c
        refine qm z hB ?_ rfl
        simp[H,binOp,Op.shift,G]
        done)
   ·cases c
  ·rename_i J
   split at c
   ·rename_i f
    subst f
    rw[l,j]
    cases op<;>simp only[YH] at c<;>first
     | cases c;done
     | (injection c with c;subst c
        refine qm z hB ?_ rfl
        simp[H,binOp,Op.intArith,Op.intCmp,Op.intDiv]
        done)
     | (split at c
        ·cases c
        ·rename_i I
         injection c with c
         subst c
         refine qm z hB ?_ rfl
         simp[H,binOp,Op.intDiv,I])
   ·cases c
 ·rename_i p q r s
  have l:=vu u r
  have j:=vu u s
  split at c
  ·rename_i f
   injection c with c
   subst c
   obtain ⟨d,i,C,A,eq⟩:=qa (qb f (by simp))
   rw[eq] at f
   cases d<;>try (cases f;done)
   rw[l,j]
   refine qm z hB ?_ rfl
   simp[eqGuard,binOp,Op.equal,Op.maxDepth,run_equalIn_bool' w 9999 t p q C]
  ·rename_i f
   injection c with c
   subst c
   obtain ⟨d,i,C,A,eq⟩:=qa (qb f (by simp))
   rw[eq] at f
   cases d<;>try (cases f;done)
   rw[l,j]
   refine qm z hB ?_ rfl
   simp[eqGuard,binOp,Op.equal,Op.maxDepth,run_equalIn_bool' w 9999 t p q C]
  ·cases c
 ·rename_i xs ys r s
  split at c
  ·rename_i K f
   split at c
   ·rename_i o
    simp only[Bool.and_eq_true,beq_iff_eq] at o
    cases v:jo xs ys with
    | none=>rw[v] at c;cases c
    | some b=>
      rw[v] at c
      injection c with c
      subst c
      obtain ⟨U,V,l,j,F,E⟩:=KD u r s f o.1.1 o.1.2 o.2 v
      rw[l,j]
      refine qm z hB ?_ rfl
      simp only[Sem.run_bind,run_eqGuard_agg w _ t X Y U V E,Result.andThen_ok,run_eql_struct,F]
   ·cases c
  ·rename_i K f
   split at c
   ·rename_i o
    simp only[Bool.and_eq_true,beq_iff_eq] at o
    cases v:jo xs ys with
    | none=>rw[v] at c;cases c
    | some b=>
      rw[v] at c
      injection c with c
      subst c
      obtain ⟨U,V,l,j,F,E⟩:=KD u r s f o.1.1 o.1.2 o.2 v
      rw[l,j]
      refine qm z hB ?_ rfl
      simp only[Sem.run_bind,run_eqGuard_agg w _ t X Y U V E,Result.andThen_ok,run_neq_struct,F]
   ·cases c
  ·rename_i n e f
   split at c
   ·rename_i o
    simp only[Bool.and_eq_true,beq_iff_eq] at o
    cases v:jo xs ys with
    | none=>rw[v] at c;cases c
    | some b=>
      rw[v] at c
      injection c with c
      subst c
      obtain ⟨U,V,l,j,F,E⟩:=yCa u r s f o.1.1 o.1.2 o.2 v
      rw[l,j]
      refine qm z hB ?_ rfl
      simp only[Sem.run_bind,run_eqGuard_agg w _ t X Y U V E,Result.andThen_ok,run_eql_struct,F]
   ·cases c
  ·cases c
 ·rename_i r s
  have l:=vu u r
  have j:=vu u s
  split at c
  all_goals first | cases c;done | skip
  all_goals
   rename_i f
   injection c with c
   subst c
   obtain ⟨d,i,C,A,eq⟩:=qa (qb f (by simp))
   rw[eq] at f
   cases d<;>try (cases f;done)
   rw[l,j]
   refine qm z hB ?_ rfl
   have y:P.underlying t=some (.pointer (P.pointee t)):=by simp[Program.pointee,C]
   simp[eqGuard,run_eql_pointer_nil w t _ y,run_neq_pointer_nil w t _ y]
 ·rename_i id off r s
  have D:=qu u X
  rw[r] at D
  obtain ⟨_,l⟩:=D
  have j:=vu u s
  split at c
  all_goals first | cases c;done | skip
  all_goals
   rename_i f
   injection c with c
   subst c
   obtain ⟨d,i,C,A,eq⟩:=qa (qb f (by simp))
   rw[eq] at f
   cases d<;>try (cases f;done)
   rw[l,j]
   refine qm z hB ?_ rfl
   have y:P.underlying t=some (.pointer (P.pointee t)):=by simp[Program.pointee,C]
   simp[eqGuard,run_eql_pointer_nil w t _ y,run_neq_pointer_nil w t _ y]
 ·rename_i p q r s
  have l:=vu u r
  have j:=vu u s
  rw[l,j]
  cases op<;>simp only at c<;>first
   | cases c;done
   | (injection c with c
      subst c
      refine qm z hB ?_ rfl
      simp[eqGuard,binOp,Op.stringOp])
 ·cases c
theorem Wi (l:HOk B w g h) {y:AV} {u:Value} (a:Zy h y=true) (c:AR (ctx w g h) y u):∃A n k,u= .slice (some A) n k:=by
 unfold Zy at a
 rw[Bool.or_eq_true] at a
 rcases a with a | a
 ·unfold yAa at a
  split at a
  ·obtain ⟨A,k,e⟩:=c;exact ⟨A,0,k,e⟩
  ·cases a
 ·unfold Vv at a
  split at a
  ·rename_i r rs e f d
   simp only[decide_eq_true_eq] at a
   obtain ⟨A,k,m,q,j,_⟩:=xu l _ c f
   have b:=j e d
   have s:=b.len r (by simp)
   obtain ⟨i,p,o,_⟩:=b.cell 0 0 r (nth r 0) rfl (vW (by omega))
   subst o
   exact ⟨i,_,_,m⟩
  ·cases a
theorem vEa (s:HOk B w g h) (hB:B<=w.heap.size) (C:kN (ctx w g h) T a) {op:BinOp} {t:TypeId} {X Y:Operand} (r:yY Y=true) (f:Wc P h op t (ev T X)=some x):
  DidV P (do eqGuard op t X Y (a.eval X) (a.eval Y);binOp op t (a.eval X) (a.eval Y)) B w g h x h:=by
 have E:∃n c,a.eval Y= .slice none n c:=by
  unfold yY at r
  split at r
  ·exact ⟨_,_,rfl⟩
  ·cases r
 obtain ⟨n,c,y⟩:=E
 rw[y]
 unfold Wc at f
 split at f
 ·rename_i e q
  obtain ⟨d,i,v,z,eq⟩:=qa (qb q (by simp))
  rw[eq] at q
  cases d<;>try (cases q;done)
  have key:∀A m k b,a.eval X= .slice A m k->A.isNone=b->JZ op b=some x->DidV P (do eqGuard op t X Y (a.eval X) (.slice none n c);binOp op t (a.eval X) (.slice none n c)) B w g h x h:=λA m k b o u j=>by
   rw[o]
   cases op<;>simp only[JZ] at j<;>first
    | cases j;done
    | skip
   ·injection j with j
    subst j
    refine qm s hB ?_ rfl
    simp[eqGuard,Lib.run_eql_slice_nil w t _ A m k n c v,u]
   ·injection j with j
    subst j
    refine qm s hB ?_ rfl
    simp[eqGuard,run_neq_slice_nil_any w t _ A m k n c v,u]
  have l:=qu C X
  split at f
  ·rename_i p
   unfold yB at p
   split at p
   ·rename_i m k o
    rw[o] at l
    have l:a.eval X= .slice none m k:=l
    exact key none m k true l rfl f
   ·cases p
  ·split at f
   ·rename_i D
    obtain ⟨A,m,k,o⟩:=Wi s D l
    exact key (some A) m k false o rfl f
   ·cases f
 ·cases f
end
section
variable {B:Nat} {w:World} {g:Gh} {h h':List Ob} {P:Program} {x:AV} {T:Nat->AV} {a:Act}
theorem J2 (H:HOk B w g h) {y:AV} {u:Value} {id st i n:Nat} (a:jA h y=some (id,st,i,n)) (C:AR (ctx w g h) y u):
  ∃ty e xs A k,h[id]? =some (.row ty e xs st)/\i+n<=xs.length/\u= .slice A n k/\(0<n->∃l m f,g.cur id= .slice (some l) m f/\A=some (l.add (i*e))):=by
 unfold jA at a
 split at a
 ·rename_i b st'
  split at a
  ·rename_i ty e xs s j
   split at a
   ·rename_i q
    injection a with a
    injection a with h1 a
    injection a with h2 a
    injection a with h3 h4
    subst h1 h2 h3 h4
    subst q
    have r:=Zw C j
    obtain ⟨K,R,cells,z,O⟩:=H.ok _ _ j
    obtain ⟨A,f,d,I⟩:=xY z
    have d:g.cur b= .slice A xs.length f:=d
    refine ⟨ty,e,xs,A,f,j,by omega,r.trans d,λo=>?_⟩
    rcases z.2 with ⟨c,p⟩ | ⟨M,cap,cur,c,_⟩
    ·rw[p] at o;simp at o
    ·have c:g.cur b=_:=c
     rw[c] at d
     injection d with d e3 e4
     exact ⟨_,_,_,c,by rw[<-d,Nat.zero_mul];rfl⟩
   ·cases a
  ·cases a
 ·rename_i b st' N Q L
  split at a
  ·rename_i ty e xs s j
   split at a
   ·rename_i q
    obtain ⟨t,v,x⟩:=q
    injection a with a
    injection a with h1 a
    injection a with h2 a
    injection a with h3 h4
    subst h1 h2 h3 h4
    subst t v
    obtain ⟨A,m,f,D,k,G,J,P,F,E,_⟩:=C
    have r:=Zw G j
    refine ⟨ty,e,xs,D,k,j,x,F,λo=>?_⟩
    obtain ⟨l,c,p⟩:=E o
    subst c
    exact ⟨l,m,f,r.symm,p⟩
   ·cases a
  ·cases a
 ·cases a
theorem zW {α:Type} {l:List α} {i:Nat} {a:α} (h:l[i]? =some a):l.set i a=l:=by
 apply List.ext_getElem?
 intro j
 by_cases b:i=j
 ·subst b;rw[List.getElem?_set_self (List.getElem?_eq_some_iff.1 h).1,h]
 ·rw[List.getElem?_set_ne b]
theorem qca:∀(p q r s:List AV),q.length=s.length->lay (p++q++r) p.length s=some (p++s++r)
 | [],q,r,s,c=>by
   have key:∀(s q:List AV),q.length=s.length->lay (q++r) 0 s=some (s++r):=by
    intro s
    induction s with
    | nil=>
      intro q b
      have:q=[]:=List.eq_nil_of_length_eq_zero (by simpa using b)
      subst this
      simp only[List.nil_append]
      cases r<;>rfl
    | cons y s d=>
      intro q b
      cases q with
      | nil=>cases b
      | cons z q=>
        simp only[List.cons_append,lay]
        rw[d q (by simpa using b)]
        rfl
   simpa using key s q c
 | a::p,q,r,s,c=>by
   have:=qca p q r s c
   simp only[List.cons_append,List.length_cons,lay]
   rw[this]
   rfl
theorem xla {e:Nat} {xs ys:List (List AV)} {i:Nat} (c:∀x∈xs,x.length=e) (g:∀y∈ys,y.length=e) (k:i+ys.length<=xs.length):
  lay xs.flatten (i*e) ys.flatten=some (jp xs i ys).flatten/\(∀x∈jp xs i ys,x.length=e)/\(jp xs i ys).length=xs.length:=by
 have j:xs=xs.take i++(xs.drop i).take ys.length++xs.drop (i+ys.length):=by
  rw[List.append_assoc, <-List.drop_drop,List.take_append_drop,List.take_append_drop]
 have a:∀x∈xs.take i,x.length=e:=λx h=>c x (List.mem_of_mem_take h)
 have b:∀x∈(xs.drop i).take ys.length,x.length=e:=λx h=>c x (List.mem_of_mem_drop (List.mem_of_mem_take h))
 have f:(xs.take i).flatten.length=i*e:=by rw[jZ a];congr 1;simp;omega
 have d:((xs.drop i).take ys.length).flatten.length=ys.flatten.length:=by rw[jZ b,jZ g];congr 1;simp;omega
 refine ⟨?_,λx h=>?_,by simp[jp];omega⟩
 ·have:=qca (xs.take i).flatten ((xs.drop i).take ys.length).flatten (xs.drop (i+ys.length)).flatten ys.flatten d
  rw[f] at this
  conv=>lhs;rw[j]
  simp only[List.flatten_append,jp]
  exact this
 ·unfold jp at h
  rcases List.mem_append.1 h with h | h
  ·rcases List.mem_append.1 h with h | h
   ·exact a x h
   ·exact g x h
  ·exact c x (List.mem_of_mem_drop h)
theorem Wj (f:HOk B w g h) (hB:B<=w.heap.size) {id st i n ty e:Nat} {xs ys:List (List AV)} (d:h[id]? =some (.row ty e xs st)) (a:i+ys.length<=xs.length) (r:∀y∈ys,y.length=e) {c:Addr} {m k:Nat} (j:g.cur id= .slice (some c) m k)
  {vs:List Value} (b:ARs (ctx w g h) ys.flatten vs) (l:∀v∈vs,v.oneCell'=true):
  ∃w' g',(storeCells (c.add (i*e)) vs).run P w= .ok () w'/\Good B w g h w' g' (h.set id (.row ty e (jp xs i ys) st)):=by
 obtain ⟨u,p,cells,s,t⟩:=f.ok _ _ d
 obtain ⟨q,l2,o⟩:=xla p r a
 exact qba f hB d j b l q l2 o
theorem qUa (H:HOk B w g h) (hB:B<=w.heap.size) {t ty e:TypeId} {y:AV} {u:Value} (hu:AR (ctx w g h) y u) (f:(zi P t).kind= .slice e) {id st i n:Nat} (K:jA h y=some (id,st,i,n)) {z:List Value} (s:(zi P e).zero=some z)
  (ho:(zi P e).ok=true) (X:z.length=(zi P e).sz) (b:jT h id i e (zi P e).sz (List.replicate n (z.map .v))=some h'):
  ∃w' g',(Builtin.clear_ #[t] ty #[u]).run P w= .ok (.tuple #[]) w'/\Good B w g h w' g' h':=by
 obtain ⟨d,it,q,β,eq⟩:=qa (qb f (by simp))
 rw[eq] at f
 cases d<;>try (cases f;done)
 injection f with f
 subst f
 rename_i e
 obtain ⟨γ,T,xs,A,k,p1,p2,F,J⟩:=J2 H K hu
 unfold jT at b
 rw[p1] at b
 simp only at b
 split at b
 ·rename_i U
  obtain ⟨Y,Q,I⟩:=U
  injection b with b
  subst b
  subst Y
  by_cases L:n=0
  ·subst L
   have:jp xs i (List.replicate 0 (z.map AV.v))=xs:=by simp[jp]
   rw[this,zW p1]
   refine ⟨w,g,?_,Good.refl H hB⟩
   subst F
   cases A<;>simp[Builtin.clear_,run_underlying q]
  ·obtain ⟨ad,m,cp,W,N⟩:=J (by omega)
   obtain ⟨d',O,V,G,p⟩:=qa ho
   cases c:O.zero with
   | none=>rw[p] at s;simp[c] at s
   | some C=>
     have D:C.cells.toList=z:=by rw[p] at s;simpa [c] using s
     have a:∀y∈List.replicate n (z.map AV.v),y.length=T:=λy Z=>by rw[List.eq_of_mem_replicate Z];simp[X,Q]
     have x:(List.replicate n (z.map AV.v)).flatten=(List.replicate n z).flatten.map AV.v:=by
      clear a I p2 J F K
      induction n with
      | zero=>simp
      | succ m ih=>simp[List.replicate_succ]
     have o:∀v∈(List.replicate n z).flatten,v.oneCell'=true:=λv R=>by
      obtain ⟨r,E,j⟩:=List.mem_flatten.1 R
      rw[List.eq_of_mem_replicate E] at j
      have:=List.all_eq_true.1 I (z.map AV.v) (by rw[List.mem_replicate];exact ⟨L,rfl⟩)
      simp only[Bool.and_eq_true] at this
      have:=List.all_eq_true.1 this.2 (.v v) (List.mem_map.2 ⟨v,j,rfl⟩)
      exact this
     obtain ⟨w',g',M,S⟩:=Wj (P:=P) (n:=n) H hB p1 (i:=i) (ys:=List.replicate n (z.map AV.v)) (by simpa using p2) a W (vs:=(List.replicate n z).flatten) (by rw[x];exact Z3 _) o
     refine ⟨w',g',?_,S⟩
     subst F
     subst N
     have l:(Builtin.zeroCells C.cells n).toList=(List.replicate n z).flatten:=by
      have:=Zp C.cells n
      rw[D] at this
      exact this
     obtain ⟨n,rfl⟩:∃m,n=m+1:=⟨n - 1,by omega⟩
     simp[Builtin.clear_,run_underlying q,J0 G c,l,M]
 ·cases b
theorem KE {sz n:Nat} {A:Option Addr} {m k:Nat} {vs:List Value} (b:vs.length=n*sz) (d:A=none->n=0) (c:∀a,A=some a->∀j u,vs[j]? =some u->w.cell? (a.add j)=some u):(Builtin.firstCells sz n (.slice A m k)).run P w= .ok vs.toArray w:=by
 cases A with
 | none=>
   have:vs=[]:=List.eq_nil_of_length_eq_zero (by rw[b,d rfl,Nat.zero_mul])
   subst this
   simp[Builtin.firstCells]
 | some a=>
   have:=run_loadCells_list (P:=P) w a vs (c a rfl)
   rw[b] at this
   simpa [Builtin.firstCells] using this
theorem xma (O:HOk B w g h) (hB:B<=w.heap.size) {t ty e:TypeId} {y s:AV} {u v:Value} (hu:AR (ctx w g h) y u) (hv:AR (ctx w g h) s v) (o:(zi P t).kind= .slice e) {id st i n:Nat} (hp:jA h y=some (id,st,i,n)) {ys:List (List AV)} (C:zo h s=some ys)
  (ho:(zi P e).ok=true) (h0:0<(zi P e).sz) (x:jT h id i e (zi P e).sz (ys.take n)=some h'):
  ∃w' g',(Builtin.copy_ #[t,t] ty #[u,v]).run P w= .ok (.int .i64 ((ys.take n).length:Nat)) w'/\Good B w g h w' g' h':=by
 obtain ⟨d,it,J,ψ,eq⟩:=qa (qb o (by simp))
 rw[eq] at o
 cases d<;>try (cases o;done)
 injection o with o
 subst o
 rename_i e
 obtain ⟨W,e',xs,A,k,p1,p2,p3,p4⟩:=J2 O hp hu
 obtain ⟨Y,k2,r1,r2,r3,r4⟩:=xu O _ hv C
 unfold jT at x
 rw[p1] at x
 simp only at x
 split at x
 ·rename_i hc
  obtain ⟨c1,Z,c3⟩:=hc
  injection x with x
  subst x
  subst c1
  obtain ⟨d',L,ο,I,V⟩:=qa ho
  have S:(zi P W).sz=L.size:=by rw[V]
  have c:(ys.take n).length=min ys.length n:=by rw[List.length_take,Nat.min_comm]
  have f:∀r∈ys.take n,r.length=e'/\r.all AV.one=true:=λr C=>by
   have:=List.all_eq_true.1 c3 r C
   simp only[Bool.and_eq_true,beq_iff_eq] at this
   exact ⟨by rw[Z];exact this.1,this.2⟩
  by_cases E:(ys.take n).length=0
  ·have X:ys.take n=[]:=List.eq_nil_of_length_eq_zero E
   have:jp xs i (ys.take n)=xs:=by rw[X];simp[jp]
   rw[this,zW p1]
   refine ⟨w,g,?_,Good.refl O hB⟩
   subst p3
   subst r1
   have N:Nat.min ys.length n=0:=by rw[<-E,c]
   have M:=KE (P:=P) (w:=w) (sz:=L.size) (n:=0) (A:=Y) (m:=ys.length) (k:=k2) (vs:=[]) (by simp) (λ_=>rfl) (λ_ _ _ _ h=>by simp at h)
   rw[E]
   cases A<;>simp[Builtin.copy_,run_underlying J,Builtin.lenOf,sizeOf,typeInfo,I,N,M,goInt,storeCells]
  ·have Q:0<n:=by
    rcases Nat.eq_zero_or_pos n with h | h
    ·subst h;simp at E
    ·exact h
   obtain ⟨ad,m,cp,q1,q2⟩:=p4 Q
   subst q2
   have p:ys≠[]:=λh=>by subst h;simp at E
   cases H:eOf h s with
   | none=>exact absurd (r4 H) p
   | some K=>
     have l:=r3 K H
     obtain ⟨r0,G⟩:∃r,r∈ys.take n:=List.exists_mem_of_ne_nil _ (λh=>E (by rw[h];rfl))
     have U:K=e':=by rw[<-l.len r0 (List.mem_of_mem_take G)];exact (f r0 G).1
     subst U
     obtain ⟨b,R⟩:∃b,Y=some b:=by
      cases z:ys with
      | nil=>exact absurd z p
      | cons q qs=>
        have hq:=l.len q (by rw[z];simp)
        obtain ⟨b,u',z1,_⟩:=l.cell 0 0 q (nth q 0) (by rw[z];rfl) (vW (by omega))
        exact ⟨b,z1⟩
     subst R
     have F:RowsAt w (ctx w g h) K (ys.take n) (some b):=⟨λr C=>(f r C).1,λj k r a D o=>by
      rw[List.getElem?_take] at D
      split at D
      ·exact l.cell j k r a D o
      ·cases D⟩
     obtain ⟨news,n1,n2,n3,n4⟩:=KC F λr C=>(f r C).2
     obtain ⟨w',g',s1,s2⟩:=Wj (P:=P) (n:=n) O hB p1 (i:=i) (ys:=ys.take n) (by rw[c];omega) (λy hy=>(f y hy).1) q1 n4 n3
     refine ⟨w',g',?_,s2⟩
     subst p3
     subst r1
     have N:Nat.min ys.length n=(ys.take n).length:=c.symm
     have T:K=L.size:=by rw[Z,S]
     have M:=KE (P:=P) (w:=w) (sz:=L.size) (n:=(ys.take n).length) (A:=some b) (m:=ys.length) (k:=k2) (vs:=news) (by rw[n1,T]) (λh=>by cases h) (λad h j u D=>by injection h with h;subst h;exact n2 j u D)
     obtain ⟨q,hq⟩:∃q,(ys.take n).length=q:=⟨_,rfl⟩
     rw[hq] at N M⊢
     simp[Builtin.copy_,run_underlying J,Builtin.lenOf,sizeOf,typeInfo,I,N,M,s1,goInt]
 ·cases x
theorem qVa (K:HOk B w g h) (hB:B<=w.heap.size) (s:kN (ctx w g h) T a) {t e:TypeId} {X:Operand} {lo j:Option Operand} {xs:List (List AV)} {l m:Int} (p:(zi P t).kind= .slice e) (U:zo h (ev T X)=some xs) (f:vY T 0 lo=some l) (i:vY T xs.length j=some m)
  (Y:(zi P e).ok=true) (h0:0<=l) (h1:l<=m) (H:m<=xs.length) (z:l=m∨(0<(zi P e).sz/\eOf h (ev T X)=some (zi P e).sz)):DidV P (Instr.sliceAt t (a.eval X) (lo.map a.eval) (j.map a.eval) none) B w g h (.vw (ev T X) (zi P e).sz l.toNat (m.toNat - l.toNat)) h:=by
 obtain ⟨d,it,F,V,eq⟩:=qa (qb p (by simp))
 rw[eq] at p
 cases d<;>try (cases p;done)
 injection p with p
 subst p
 rename_i e
 obtain ⟨d',L,N,C,D⟩:=qa Y
 have I:=qu s X
 obtain ⟨A,k,J,Z,M,r4⟩:=xu K _ I U
 have c:(match lo.map a.eval with | some v=>Instr.sliceBound v m.toNat .sliceB | none=>pure 0:Sem Nat).run P w= .ok l.toNat w:=by
  cases lo with
  | none=>injection f with f;subst f;rfl
  | some x=>
    simp only[vY] at f
    split at f
    ·rename_i kk n E
     injection f with f
     subst f
     have:=vu s E
     simp only[Option.map_some,this,Instr.sliceBound,asIntOf,Sem.run_bind,Sem.run_pure,Result.andThen_ok,if_pos (show 0<=n/\n<=(m.toNat:Int) by omega)]
    ·cases f
 have b:(match j.map a.eval with | some v=>Instr.sliceBound v k .sliceAcap | none=>pure xs.length:Sem Nat).run P w= .ok m.toNat w:=by
  cases j with
  | none=>injection i with i;subst i;simp
  | some x=>
    simp only[vY] at i
    split at i
    ·rename_i kk n E
     injection i with i
     subst i
     have:=vu s E
     simp only[Option.map_some,this,Instr.sliceBound,asIntOf,Sem.run_bind,Sem.run_pure,Result.andThen_ok,if_pos (show 0<=n/\n<=(k:Int) by omega)]
    ·cases i
 refine qm K hB (v:= .slice (if k=l.toNat then A else A.map (·.add (l.toNat*L.size))) (m.toNat - l.toNat) (k - l.toNat)) ?_ ?_
 ·have S:(Instr.sliceBounds true xs.length k (lo.map a.eval) (j.map a.eval) none).run P w= .ok (l.toNat,m.toNat,k) w:=by
   unfold Instr.sliceBounds
   cases lo with
   | none=>cases j with
     | none=>
       injection c with c
       injection b with b
       simp[c,b]
     | some x=>
       injection c with c
       simp only[Option.map_some] at b
       simp[c,b]
   | some y=>cases j with
     | none=>
       injection b with b
       simp only[Option.map_some] at c
       simp[c,b]
     | some x=>
       simp only[Option.map_some] at c b
       simp[c,b]
  simp only[Instr.sliceAt,Sem.run_bind,run_underlying F,Result.andThen_ok,Instr.slice,J]
  simp only[Sem.run_bind,S,Result.andThen_ok,sizeOf,typeInfo,run_program]
  simp[C]
 ·refine ⟨A,xs.length,k,_,_,by rw[<-J];exact I,by omega,by omega,rfl,λhn=>?_,λh0=>?_⟩
  rotate_left
  ·rw[h0]
   refine ⟨?_,rfl⟩
   split
   ·exact .inl rfl
   ·exact .inr (by simp)
  have G:k≠l.toNat:=by omega
  rw[if_neg G]
  cases A with
  | some W=>exact ⟨W,rfl,by rw[D];rfl⟩
  | none=>
    exfalso
    rcases z with he | ⟨O,u⟩
    ·omega
    ·have r:=M _ u
     cases o:xs with
     | nil=>rw[o] at H;simp at H;omega
     | cons q qs=>
       have hq:=r.len q (by rw[o];simp)
       obtain ⟨Q,u',R,_⟩:=r.cell 0 0 q (nth q 0) (by rw[o];rfl) (vW (by omega))
       cases R
end
section
variable {B:Nat} {w:World} {g:Gh} {h h':List Ob} {P:Program} {x:AV} {T:Nat->AV} {a:Act} {kk:IntKind} {n:Int} {v:AV}
theorem qI:∀ {es:List (AV × AV)},jP kk es=true↔∀p∈es,p.1= .v (.int kk (jB p))
 | []=>by simp[jP]
 | p::r=>by
   have c:=qI (es:=r)
   constructor
   ·intro h q a
    unfold jP at h
    split at h
    ·rename_i heq;cases heq
    ·rename_i k m u d heq
     injection heq with b h2
     subst b h2
     simp only[Bool.and_eq_true,beq_iff_eq] at h
     rcases List.mem_cons.1 a with rfl | a
     ·simp[jB,h.1]
     ·exact c.1 h.2 q a
    ·cases h
   ·intro h
    obtain ⟨p1,p2⟩:=p
    have h0:p1=_:=h (p1,p2) (by simp)
    have b:=c.2 λq a=>h q (by simp[a])
    rw[h0]
    simp[jP,b]
theorem Jd {a b:List (AV × AV)} (d:a.Perm b) (h:jP kk b=true):jP kk a=true:=by
 rw[qI] at h⊢
 exact λp c=>h p (d.mem_iff.1 c)
theorem ZB:∀ {es:List (AV × AV)},js n es=true↔∃p∈es,jB p=n
 | []=>by simp[js]
 | p::r=>by simp[js,ZB (es:=r)]
theorem ka:∀(es:List (AV × AV)),qM kk n v es=es.map λp=>if jB p=n then (.v (.int kk n),v) else p
 | []=>rfl
 | p::r=>by simp[qM,ka r]
theorem vZ:∀(es:List (AV × AV)),(qA kk n v es).Perm ((.v (.int kk n),v)::es)
 | []=> .refl _
 | p::r=>by
   unfold qA
   split
   ·exact .refl _
   ·exact ((vZ r).cons p).trans (.swap _ _ _)
theorem Je {n n':Int} {v v':AV} (d:n≠n'):∀(es:List (AV × AV)),qA kk n v (qA kk n' v' es)=qA kk n' v' (qA kk n v es)
 | []=>by
   simp only[qA,jB]
   by_cases h:n<n'
   ·simp[h,show ¬ n'<n by omega]
   ·simp[h,show n'<n by omega]
 | p::r=>by
   have e:=Je (v:=v) (v':=v') d r
   have k1:jB (.v (.int kk n),v)=n:=rfl
   have k2:jB (.v (.int kk n'),v')=n':=rfl
   by_cases b:n<jB p
   ·by_cases a:n'<jB p
    ·by_cases c:n<n'
     ·simp[qA,b,a,c,k1,k2,show ¬ n'<n by omega]
     ·simp[qA,b,a,c,k1,k2,show n'<n by omega]
    ·have c:n<n':=by omega
     simp[qA,b,a,k1,show ¬ n'<n by omega]
   ·by_cases a:n'<jB p
    ·have c:n'<n:=by omega
     simp[qA,b,a,k2,show ¬ n<n' by omega]
    ·simp[qA,b,a,e]
theorem j5 {c:Ctx}:∀ {l:List (AV × AV)} {es:List MapEntry},MapRel c l es->l.length=es.length
 | [],es,h=>by have h:es=[]:=h;simp[h]
 | p::r,es,⟨e,q,a,_,_,b⟩=>by subst a;simp[j5 b]
theorem jC {c:Ctx}:∀ {l:List (AV × AV)} {es:List MapEntry},MapRel c l es->∀(i:Nat) (p:AV × AV),l[i]? =some p->∃e,es[i]? =some e/\AR c p.1 e.key/\AR c p.2 e.val
 | q::r,es,⟨e,s,b,d,g,f⟩,0,p,a=>by injection a with a;subst a b;exact ⟨e,rfl,d,g⟩
 | q::r,es,⟨e,s,b,d,g,f⟩,i+1,p,a=>by
   subst b
   exact jC f i p (by simpa using a)
theorem QF {c:Ctx}:∀ {l:List (AV × AV)} {es:List MapEntry},l.length=es.length->(∀(i:Nat) (p:AV × AV) (e:MapEntry),l[i]? =some p->es[i]? =some e->AR c p.1 e.key/\AR c p.2 e.val)->MapRel c l es
 | [],[],_,_=>rfl
 | [],_::_,h,_=>by cases h
 | _::_,[],h,_=>by cases h
 | p::l,e::es,d,h=>⟨e,es,rfl,(h 0 p e rfl rfl).1,(h 0 p e rfl rfl).2,QF (by simpa using d) λi p e a b=>h (i+1) p e (by simpa using a) (by simpa using b)⟩
theorem ZC {kk':IntKind}:∀(es:List MapEntry) (i:Nat),(∀e∈es,∃m,e.key= .int kk m)->(∀e∈es,e.key≠ .int kk n)/\Instr.findNow (.int kk') (.int kk n) es i=some none∨∃j e,es[j]? =some e/\e.key= .int kk n/\Instr.findNow (.int kk') (.int kk n) es i=some (some (i+j,e.val))
 | [],i,_=> .inl ⟨by simp,rfl⟩
 | e::es,i,l=>by
   obtain ⟨m,c⟩:=l e (by simp)
   by_cases b:n=m
   ·subst b
    exact .inr ⟨0,e,rfl,c,by simp[Instr.findNow,c,Instr.sameNow]⟩
   ·have k:Instr.sameNow (.int kk') (.int kk n) e.key=some false:=by simp[c,Instr.sameNow,b]
    rcases ZC (kk':=kk') es (i+1) (λe o=>l e (by simp[o])) with ⟨f,d⟩ | ⟨j,g,f,d,p⟩
    ·refine .inl ⟨λg a=>?_,by simp[Instr.findNow,k,d]⟩
     rcases List.mem_cons.1 a with rfl | a
     ·rw[c];intro h;injection h with _ h;exact b h.symm
     ·exact f g a
    ·exact .inr ⟨j+1,g,by simpa using f,d,by simp[Instr.findNow,k,p];omega⟩
theorem KF {es:List MapEntry} (k:(es.map (·.key)).Nodup) {i j:Nat} {e b:MapEntry} (d:es[i]? =some e) (g:es[j]? =some b) (f:e.key=b.key):i=j:=by
 have a:(es.map (·.key))[i]? =some e.key:=by simp[d]
 have c:(es.map (·.key))[j]? =some e.key:=by simp[g,f]
 have h:=(List.getElem?_eq_some_iff.1 a).1
 exact (List.getElem?_inj h k).1 (a.trans c.symm)
theorem Wk {c:Ctx} {l:List (AV × AV)} {es:List MapEntry} (d:MapRel c l es) (j:jP kk l=true):∀e∈es,∃m,e.key= .int kk m:=λe h=>by
 obtain ⟨i,f⟩:=List.mem_iff_getElem?.1 h
 have g:i<l.length:=by rw[j5 d];exact (List.getElem?_eq_some_iff.1 f).1
 obtain ⟨k,a,b,_⟩:=jC d i _ (List.getElem?_eq_getElem g)
 rw[f] at a
 injection a with a
 subst a
 have:=qI.1 j l[i] (List.getElem_mem g)
 rw[this] at b
 exact ⟨_,b⟩
theorem J3 {z:AV}:∀ {es:List (AV × AV)},(∀p∈es,jB p≠n)->yn n z es=(z,false)
 | [],_=>rfl
 | p::r,h=>by
   have b:=J3 (z:=z) (es:=r) λq c=>h q (by simp[c])
   have a:=h p (by simp)
   simp[yn,b,a]
theorem J4 {z:AV}:∀ {es:List (AV × AV)},(∃p∈es,jB p=n)->∃p∈es,jB p=n/\yn n z es=(p.2,true)
 | [],h=>by simp at h
 | p::r,h=>by
   by_cases a:jB p=n
   ·exact ⟨p,by simp,a,by simp[yn,a]⟩
   ·obtain ⟨q,b,c⟩:=h
    rcases List.mem_cons.1 b with rfl | b
    ·exact absurd c a
    ·obtain ⟨d,g,e,f⟩:=J4 (z:=z) (es:=r) ⟨q,b,c⟩
     exact ⟨d,by simp[g],e,by simp[yn,a,f]⟩
theorem J5 {c:Ctx} {K M mt:TypeId} {es:Array MapEntry} {k:Nat} {l l':List (AV × AV)} {b:Nat} {kk':IntKind} {z:Value} {C:AV} (Z:P.underlying mt=some (.map K M)) (A:P.underlying K=some (.int kk')) (S:w.heap[b]? =some (.map es k)) (H:l'.Perm l) (E:MapRel c l' es.toList) (U:(es.toList.map (·.key)).Nodup)
  (m:jP kk l=true) (O:(zeroValue M).run P w= .ok z w) (B:AR c C z) (ok:Bool):
  ∃u,(Instr.lookup mt (.map (some b)) (.int kk n) ok).run P w= .ok u w/\AR c (if ok then .tup [(yn n C l).1,.v (.bool (yn n C l).2)] else (yn n C l).1) u:=by
 have F:=Jd H m
 have Q:∀ {β:Type} (f:Obj->Sem β),(Sem.getObj b f).run P w=(f (.map es k)).run P w:=λf=>by simp[Sem.run,S]
 have s:∀(r:Option (Nat × Value)) (q:Value) (t:Bool),Instr.findNow (.int kk') (.int kk n) es.toList 0=some r->(match r with | some (_,v)=>(pure (v,true):Sem (Value × Bool)) | none=>do pure (<-zeroValue M,false)).run P w= .ok (q,t) w->
   (Instr.lookup mt (.map (some b)) (.int kk n) ok).run P w= .ok (if ok then .tuple #[q,.bool t] else q) w:=λr q t Y x=>by
  have N:∀d,(Instr.checkKey es.isEmpty (d+1) K (.int kk n)).run P w= .ok () w:=λd=>by simp[Instr.checkKey,run_underlying A]
  have X:(getObj b).run P w= .ok (.map es k) w:=by simp[getObj,Sem.run,S]
  simp only[Instr.lookup,Sem.run_bind,run_underlying Z,Result.andThen_ok,X,Sem.run_pure,N,Instr.findKey,run_underlying A,Y]
  cases r with
  | some p=>obtain ⟨i,v⟩:=p;simp only[Sem.run_pure] at x ⊢;injection x with x _;injection x with h o;subst h o;cases ok<;>simp
  | none=>simp only[Sem.run_bind,O,Result.andThen_ok,Sem.run_pure] at x ⊢;injection x with x _;injection x with h o;subst h o;cases ok<;>simp
 rcases ZC (kk':=kk') es.toList 0 (Wk E F) (n:=n) with ⟨h,o⟩ | ⟨j,e,h,o,V⟩
 ·have I:∀p∈l,jB p≠n:=λp y e=>by
   obtain ⟨i,L⟩:=List.mem_iff_getElem?.1 (H.mem_iff.2 y)
   obtain ⟨G,g,a,_⟩:=jC E i p L
   have:=qI.1 m p y
   rw[this,e] at a
   exact h G (List.mem_of_getElem? g) a
  refine ⟨_,s none z false o (by simp[O]),?_⟩
  rw[J3 I]
  cases ok
  ·exact B
  ·exact ⟨_,rfl,_,_,rfl,B,_,_,rfl,rfl,rfl⟩
 ·have D:j<l'.length:=by rw[j5 E];exact (List.getElem?_eq_some_iff.1 h).1
  have hex:∃p∈l,jB p=n:=by
   obtain ⟨G,g,a,_⟩:=jC E j _ (List.getElem?_eq_getElem D)
   rw[h] at g
   injection g with g
   subst g
   have T:=H.mem_iff.1 (List.getElem_mem D)
   have:=qI.1 m _ T
   rw[this] at a
   have a:e.key= .int kk _:=a
   rw[o] at a
   injection a with _ a
   exact ⟨_,T,a.symm⟩
  obtain ⟨p,p1,p2,W⟩:=J4 (z:=C) hex
  obtain ⟨i,L⟩:=List.mem_iff_getElem?.1 (H.mem_iff.2 p1)
  obtain ⟨G,g,a,R⟩:=jC E i p L
  have:=qI.1 m p p1
  rw[this,p2] at a
  have a:G.key= .int kk n:=a
  have J:=KF U g h (a.trans o.symm)
  subst J
  rw[h] at g
  injection g with g
  subst g
  refine ⟨_,s (some (0+i,e.val)) e.val true V (by simp),?_⟩
  rw[W]
  cases ok
  ·exact R
  ·exact ⟨_,rfl,_,_,rfl,R,_,_,rfl,rfl,rfl⟩
theorem YN (X:HOk B w g h) (hB:B<=w.heap.size) {T et mt:TypeId} {id:Nat} {l l2:List (AV × AV)} {kk':IntKind} {u:Value} (hu:P.underlying mt=some (.map T et)) (F:P.underlying T=some (.int kk')) (Y:h[id]? =some (.mapo l)) (hv:AR (ctx w g h) v u) (x:yv kk n v l=some l2):
  ∃w',(Instr.mapUpdate mt (.map (some (g.β id))) (.int kk n) u).run P w= .ok () w'/\Good B w g h w' g (h.set id (.mapo l2)):=by
 obtain ⟨h1,es,k,l',N,s,y,V⟩:=X.ok id _ Y
 have N:w.heap[g.β id]? =some (.map es k):=N
 unfold yv at x
 split at x
 case isFalse=>cases x
 rename_i G
 injection x with x
 have D:=Jd s G
 have J:∀d,(Instr.checkKey false (d+1) T (.int kk n)).run P w= .ok () w:=λd=>by simp[Instr.checkKey,run_underlying F]
 have hg:(getObj (g.β id)).run P w= .ok (.map es k) w:=by simp[getObj,Sem.run,N]
 have C:∀o,(setObj (g.β id) o).run P w= .ok () { w with heap:=w.heap.setIfInBounds (g.β id) o }:=λo=>by simp[setObj,Sem.run,N]
 rcases ZC (kk':=kk') es.toList 0 (Wk y D) (n:=n) with ⟨A,E⟩ | ⟨j,e,A,E,f3⟩
 ·have S:js n l=false:=by
   rw[Bool.eq_false_iff]
   intro hc
   obtain ⟨p,H,e⟩:=ZB.1 hc
   obtain ⟨i,O⟩:=List.mem_iff_getElem?.1 (s.mem_iff.2 H)
   obtain ⟨Q,r,f,_⟩:=jC y i p O
   have:=qI.1 G p H
   rw[this,e] at f
   exact A Q (List.mem_of_getElem? r) f
  rw[S] at x
  simp only[Bool.false_eq_true,if_false] at x
  subst x
  refine ⟨_,?_,V7 X hB Y (es':=es.push { key:= .int kk n,val:=u,born:=k }) (k':=k+1) (l2:=l'++[(.v (.int kk n),v)]) ?_ ?_ ?_⟩
  ·simp only[Instr.mapUpdate,Sem.run_bind,run_underlying hu,Result.andThen_ok,hg,J,Instr.findKey,run_underlying F,E,Sem.run_pure,C]
  ·refine (List.perm_append_comm).trans (List.Perm.trans ?_ (vZ l).symm)
   exact s.cons _
  ·rw[Array.toList_push]
   refine QF (by simp[j5 y]) λi p e s m=>?_
   by_cases O:i<l'.length
   ·rw[List.getElem?_append_left O] at s
    rw[List.getElem?_append_left (by rw[<-j5 y];exact O)] at m
    obtain ⟨Q,r,f,W⟩:=jC y i p s
    rw[m] at r;injection r with r;subst r
    exact ⟨f,W⟩
   ·have hl:=j5 y
    rw[List.getElem?_append_right (by omega)] at s m
    rw[<-hl] at m
    have h0:i - l'.length=0:=by
     have:=(List.getElem?_eq_some_iff.1 s).1
     simp at this;omega
    rw[h0] at s m
    injection s with s;injection m with m
    subst s m
    exact ⟨rfl,hv⟩
  ·rw[Array.toList_push,List.map_append,List.nodup_append]
   refine ⟨V,by simp,λa ha b hb=>?_⟩
   simp at hb
   obtain ⟨e,m,rfl⟩:=List.mem_map.1 ha
   rw[hb]
   exact A e m
 ·have K:j<l'.length:=by rw[j5 y];exact (List.getElem?_eq_some_iff.1 A).1
  have M:js n l=true:=by
   rw[ZB]
   obtain ⟨Q,r,f,_⟩:=jC y j _ (List.getElem?_eq_getElem K)
   rw[A] at r
   injection r with r
   subst r
   have hm:=s.mem_iff.1 (List.getElem_mem K)
   have:=qI.1 G _ hm
   rw[this] at f
   have f:e.key= .int kk _:=f
   rw[E] at f
   injection f with _ f
   exact ⟨_,hm,f.symm⟩
  rw[M] at x
  simp only[if_true] at x
  subst x
  have I:es[j]? =some e:=by simpa using A
  refine ⟨_,?_,V7 X hB Y (es':=es.modify j λe=>{ e with key:= .int kk n,val:=u }) (k':=k) (l2:=qM kk n v l') ?_ ?_ ?_⟩
  ·have α:(Instr.keyThatStays e.key (.int kk n)).run P w= .ok (.int kk n) w:=by simp[Instr.keyThatStays,E,Instr.sameBits]
   rw[Nat.zero_add] at f3
   simp only[Instr.mapUpdate,Sem.run_bind,run_underlying hu,Result.andThen_ok,hg,J,Instr.findKey,run_underlying F,f3,Sem.run_pure,I,Option.map_some,Option.getD_some,α,C]
  ·rw[ka,ka]
   exact s.map _
  ·refine QF (by simp[ka,j5 y]) λi p Q c m=>?_
   rw[ka,List.getElem?_map] at c
   cases z:l'[i]? with
   | none=>rw[z] at c;cases c
   | some q=>
     rw[z] at c
     injection c with c
     obtain ⟨e2,r,f,W⟩:=jC y i q z
     have L:=qI.1 D q (List.mem_of_getElem? z)
     rw[L] at f
     have f:e2.key= .int kk (jB q):=f
     rw[Array.getElem?_toList,Array.getElem?_modify] at m
     have Z:es[i]? =some e2:=by simpa using r
     rw[Z] at m
     by_cases R:jB q=n
     ·rw[R] at f
      have t:=KF V r A (f.trans E.symm)
      subst t
      have c:(if jB q=n then ((.v (.int kk n),v):AV × AV) else q)=p:=c
      rw[if_pos R] at c
      subst c
      simp only[if_true,Option.map_some] at m
      injection m with m
      subst m
      exact ⟨rfl,hv⟩
     ·have t:j≠i:=λU=>by
       subst U
       rw[A] at r
       injection r with r
       subst r
       rw[E] at f
       injection f with _ f
       exact R f.symm
      have c:(if jB q=n then ((.v (.int kk n),v):AV × AV) else q)=p:=c
      rw[if_neg R] at c
      subst c
      rw[if_neg t] at m
      injection m with m
      subst m
      exact ⟨by rw[L];exact f,W⟩
  ·have:(es.modify j λe=>{ e with key:= .int kk n,val:=u }).toList.map (·.key)=es.toList.map (·.key):=by
    apply List.ext_getElem?
    intro i
    rw[List.getElem?_map,List.getElem?_map,Array.getElem?_toList,Array.getElem?_modify,Array.getElem?_toList]
    by_cases t:j=i
    ·subst t;rw[I];simp[E]
    ·rw[if_neg t]
   rw[this]
   exact V
theorem xna {c:Ctx} {t:TypeId} {z:AV} (b:z9a (zi P t)=some z):∃u,(zeroValue t).run P w= .ok u w/\AR c z u:=by
 unfold z9a at b
 split at b
 ·rename_i g
  cases a:(zi P t).zero with
  | none=>rw[a] at b;cases b
  | some h=>
    rw[a] at b
    simp only[Option.bind_some] at b
    obtain ⟨d,i,l,j,e⟩:=qa (Vw a)
    rw[e] at a g
    cases f:i.zero with
    | none=>rw[f] at a;cases a
    | some v=>
      rw[f] at a g
      injection a with a
      have k:v.cells= #[v]:=by
       have g:v.oneCell'=true:=g
       cases v<;>first | rfl | cases g
      have a:v.cells.toList=h:=a
      rw[k] at a
      subst a
      injection b with b
      subst b
      exact ⟨v,J0 j f,rfl⟩
 ·cases b
theorem Wl {c:Ctx} {t:TypeId} (y:(zi P t).ok=true) {g:List AV} {vs:Array Value} (m:ARs c g vs.toList) {k:Nat} {x:AV} (a:part g k (zi P t).agg (zi P t).sz=some x):∃u,(_root_.Go.part t vs k).run P w= .ok u w/\AR c x u:=by
 obtain ⟨d,i,q,p,e⟩:=qa y
 rw[e] at a
 have f:(isAgg t).run P w= .ok (z7a d) w:=by
  simp only[isAgg,Sem.run_bind,run_underlying q,Result.andThen_ok]
  cases d<;>rfl
 simp only[part] at a
 split at a
 ·rename_i h
  cases b:cut g k i.size with
  | none=>rw[b] at a;cases a
  | some rs=>
    rw[b] at a
    injection a with a
    subst a
    obtain ⟨v,o,z⟩:=Vq m k _ b
    refine ⟨.agg (vs.extract k (k+i.size)),?_,_,rfl,?_⟩
    ·have l:k+i.size<=vs.size:=by simpa using o
     simp[_root_.Go.part,f,h,sizeOf,typeInfo,p,l]
    ·simpa [Array.toList_extract,List.extract_eq_take_drop] using v
 ·rename_i h
  split at a
  ·rename_i r
   injection a with a
   subst a
   obtain ⟨u,s,n⟩:=kF m k r
   refine ⟨u,?_,n⟩
   have j:vs[k]? =some u:=by simpa using s
   simp[_root_.Go.part,f,h,j]
  ·cases a
end
section
variable {B:Nat} {w:World} {g:Gh} {h h':List Ob} {P:Program} {x:AV} {T:Nat->AV} {a:Act}
theorem KG:∀ {rows:List (List AV)} {l:List UInt8},Vu rows=some l->∃ns:List Int,rows=ns.map (λn=>[AV.v (.int .u8 n)])/\l=ns.map λn=>UInt8.ofNat n.toNat
 | [],l,h=>by
   injection h with h
   exact ⟨[],rfl,h.symm⟩
 | r::rows,l,h=>by
   unfold Vu at h
   split at h
   ·rename_i e;cases e
   ·rename_i n d e
    injection e with e1 e2
    subst e2
    cases a:Vu rows with
    | none=>rw[a] at h;cases h
    | some l'=>
      rw[a] at h
      injection h with h
      obtain ⟨ns,c,b⟩:=KG a
      exact ⟨n::ns,by rw[e1,c];rfl,by rw[<-h,b];rfl⟩
   ·cases h
theorem qWa (l:List Int):∀s:ByteArray,l.foldl (λr n=>r.push (UInt8.ofNat n.toNat)) s=⟨s.data++(l.map λn=>UInt8.ofNat n.toNat).toArray⟩:=by
 induction l with
 | nil=>intro s;simp
 | cons x l a=>
   intro s
   simp only[List.map_cons,List.foldl_cons]
   rw[a]
   simp[ByteArray.push]
theorem xoa (Z:HOk B w g h) {s d:TypeId} {rows:List (List AV)} {v:Value} {z:AV} (W:AR (ctx w g h) (.sl 1 rows) v) (R:(zi P s).ok=true) (t:(zi P d).kind= .str) (b:xka P s rows=some z):
  ∃u,(convert s d v).run P w= .ok u w/\AR (ctx w g h) z u:=by
 obtain ⟨A,k,X,h2,p,_⟩:=xu Z (.sl 1 rows) W rfl
 have p:=p 1 rfl
 unfold xka at b
 split at b
 ·rename_i e o
  split at b
  ·rename_i a
   cases I:Vu rows with
   | none=>rw[I] at b;cases b
   | some l=>
     rw[I] at b
     injection b with b
     subst b
     obtain ⟨N,i1,C,V,G⟩:=qa R
     obtain ⟨Q,i2,D,O,H⟩:=qa (qb t (by simp))
     obtain ⟨Y,i3,x,U,y⟩:=qa (qb a (by simp))
     rw[G] at o
     rw[H] at t
     rw[y] at a
     cases N<;>try (cases o;done)
     cases Q<;>try (cases t;done)
     cases Y<;>try (cases a;done)
     injection o with o
     injection a with a
     subst o;subst a
     obtain ⟨ns,J,q⟩:=KG I
     refine ⟨.string ⟨l.toArray⟩,?_,rfl⟩
     have S:∀i,A=some i->∀j u,(ns.map (Value.int .u8))[j]? =some u->w.cell? (i.add j)=some u:=λi T j u f=>by
      rw[List.getElem?_map] at f
      cases K:ns[j]? with
      | none=>rw[K] at f;cases f
      | some n=>
        rw[K] at f
        injection f with f
        subst f
        obtain ⟨r,L,m,M,E⟩:=p.cell j 0 [.v (.int .u8 n)] (.v (.int .u8 n)) (by rw[J,List.getElem?_map,K];rfl) rfl
        rw[T] at m
        injection m with m
        subst m
        rw[Nat.mul_one,Nat.add_zero] at M
        have E:L= .int .u8 n:=E
        rw[M,E]
     have F:rows.length=ns.length:=by rw[J,List.length_map]
     rw[X,run_convert_bytes_string w s d _ A rows.length k C x D]
     cases A with
     | none=>
       have h0:ns=[]:=by
        cases ns with
        | nil=>rfl
        | cons n ns=>
          obtain ⟨r,L,m,_⟩:=p.cell 0 0 [.v (.int .u8 n)] (.v (.int .u8 n)) (by rw[J];rfl) rfl
          cases m
       rw[h0] at F q
       rw[F,q]
       rfl
     | some i=>
       have c:=run_loadCells_list (P:=P) w i (ns.map (Value.int .u8)) (S i rfl)
       rw[List.length_map] at c
       rw[F,run_bytesToString w i ns.length k ns c,qWa,q]
       simp
  ·cases b
 ·cases b
theorem qda {c:Ctx}:∀ {aZ:List AV} {y:AV} {vs:List Value} {v:Value},ARs c aZ vs->AR c y v->∀ {r:AV},Wa y aZ=some r->∃u,(vs.foldlM Builtin.max2 v).run P w= .ok u w/\AR c r u
 | [],y,vs,v,e,a,r,h=>by
   have e:vs=[]:=e
   subst e
   have h:some y=some r:=by rw[<-h];unfold Wa;rfl
   injection h with h;subst h
   exact ⟨v,rfl,a⟩
 | z::aZ,y,vs,v,⟨u,q,f,b,i⟩,a,r,h=>by
   subst f
   unfold Wa at h
   split at h
   ·rename_i heq;cases heq
   ·rename_i k p k' n j heq
    injection heq with h4 h5
    subst h4 h5
    have a:v= .int k p:=a
    have b:u= .int k' n:=b
    subst a b
    obtain ⟨u,g,d⟩:=qda (y:= .v (.int k (if n>p then n else p))) i rfl h
    exact ⟨u,by simpa [List.foldlM_cons,Builtin.max2] using g,d⟩
   ·cases h
theorem qea {c:Ctx}:∀ {aZ:List AV} {y:AV} {vs:List Value} {v:Value},ARs c aZ vs->AR c y v->∀ {r:AV},Wb y aZ=some r->∃u,(vs.foldlM Builtin.min2 v).run P w= .ok u w/\AR c r u
 | [],y,vs,v,e,a,r,h=>by
   have e:vs=[]:=e
   subst e
   have h:some y=some r:=by rw[<-h];unfold Wb;rfl
   injection h with h;subst h
   exact ⟨v,rfl,a⟩
 | z::aZ,y,vs,v,⟨u,q,f,b,i⟩,a,r,h=>by
   subst f
   unfold Wb at h
   split at h
   ·rename_i heq;cases heq
   ·rename_i k p k' n j heq
    injection heq with h4 h5
    subst h4 h5
    have a:v= .int k p:=a
    have b:u= .int k' n:=b
    subst a b
    obtain ⟨u,g,d⟩:=qea (y:= .v (.int k (if n<p then n else p))) i rfl h
    exact ⟨u,by simpa [List.foldlM_cons,Builtin.min2] using g,d⟩
   ·cases h
theorem xpa (G:HOk B w g h) (hB:B<=w.heap.size) (o:kN (ctx w g h) T a) {c:Call} {ty:TypeId} (f:wu P T h c=some (x,h')):
  Did P (do let d<-resolve a.eval c ty;invoke d.target d.args) B w g h x h':=by
 obtain ⟨callee,args,argTypes⟩:=c
 obtain ⟨args⟩:=args
 obtain ⟨argTypes⟩:=argTypes
 unfold wu at f
 split at f
 ·rename_i X t l b j
  simp only at l b j
  subst l b j
  split at f
  ·rename_i e p
   cases m:zo h (ev T X) with
   | none=>rw[m] at f;cases f
   | some xs=>
     rw[m] at f
     injection f with f
     injection f with hx1 hx2
     subst hx1 hx2
     obtain ⟨d,i,V,Q,eq⟩:=qa (qb p (by simp))
     rw[eq] at p
     cases d<;>try (cases p;done)
     obtain ⟨A,k,s,C,_,_⟩:=xu G _ (qu o X) m
     refine ⟨.value (.int .i64 xs.length),_,w,g,?_,.inl rfl,Good.refl G hB,rfl⟩
     simp[resolve,invoke,builtin,Builtin.len_,s,run_underlying V,goInt]
  ·cases f
 ·rename_i S X t O l b j
  simp only at l b j
  subst l b j
  split at f
  ·rename_i e p
   split at f
   ·rename_i M
    subst M
    obtain ⟨v,w',g',W,I,R⟩:=YM (ty:=ty) G hB (qu o S) (qu o X) p f
    refine ⟨.value v,v,w',g',?_,.inl rfl,I,R⟩
    simp[resolve,invoke,builtin,W]
   ·cases f
  ·cases f
 ·rename_i X t l b j
  simp only at l b j
  subst l b j
  split at f
  ·rename_i e p
   cases E:jA h (ev T X) with
   | none=>rw[E] at f;cases f
   | some q=>
     obtain ⟨id,st,i,n⟩:=q
     rw[E] at f
     simp only[Option.bind_some] at f
     cases J:(zi P e).zero with
     | none=>rw[J] at f;cases f
     | some z=>
       rw[J] at f
       simp only[Option.bind_some] at f
       split at f
       ·rename_i H
        cases m:jT h id i e (zi P e).sz (List.replicate n (z.map .v)) with
        | none=>rw[m] at f;cases f
        | some I=>
          rw[m] at f
          injection f with f
          injection f with hx1 hx2
          subst hx1 hx2
          obtain ⟨w',g',s,C⟩:=qUa (P:=P) (ty:=ty) G hB (qu o X) p E J H.1 H.2 m
          refine ⟨.value (.tuple #[]),.tuple #[],w',g',?_,.inl rfl,C,⟨_,rfl,rfl⟩⟩
          simp[resolve,invoke,builtin,s]
       ·cases f
  ·cases f
 ·rename_i D X t O l b j
  simp only at l b j
  subst l b j
  split at f
  ·rename_i e p
   split at f
   ·rename_i H
    obtain ⟨M,U,N⟩:=H
    subst M
    cases E:jA h (ev T D) with
    | none=>rw[E] at f;cases f
    | some q=>
      obtain ⟨id,st,i,n⟩:=q
      rw[E] at f
      simp only[Option.bind_some] at f
      cases L:zo h (ev T X) with
      | none=>rw[L] at f;cases f
      | some ys=>
        rw[L] at f
        simp only[Option.bind_some] at f
        cases m:jT h id i e (zi P e).sz (ys.take n) with
        | none=>rw[m] at f;cases f
        | some I=>
          rw[m] at f
          injection f with f
          injection f with hx1 hx2
          subst hx1 hx2
          obtain ⟨w',g',s,C⟩:=xma (P:=P) (ty:=ty) G hB (qu o D) (qu o X) p E L U N m
          refine ⟨.value (.int .i64 ((ys.take n).length:Nat)),_,w',g',?_,.inl rfl,C,rfl⟩
          simp only[resolve,invoke,builtin]
          simp[s]
   ·cases f
  ·cases f
 ·rename_i K X r l b
  simp only at l b
  subst l b
  cases F:Wa (ev T X) (evl T r) with
  | none=>rw[F] at f;cases f
  | some y=>
    rw[F] at f
    injection f with f
    injection f with hx1 hx2
    subst hx1 hx2
    obtain ⟨u,s,C⟩:=qda (P:=P) (w:=w) (Zz o r) (qu o X) F
    refine ⟨.value u,u,w,g,?_,.inl rfl,Good.refl G hB,C⟩
    simp[resolve,invoke,builtin,Builtin.max_,s]
 ·rename_i K X r l b
  simp only at l b
  subst l b
  cases F:Wb (ev T X) (evl T r) with
  | none=>rw[F] at f;cases f
  | some y=>
    rw[F] at f
    injection f with f
    injection f with hx1 hx2
    subst hx1 hx2
    obtain ⟨u,s,C⟩:=qea (P:=P) (w:=w) (Zz o r) (qu o X) F
    refine ⟨.value u,u,w,g,?_,.inl rfl,Good.refl G hB,C⟩
    simp[resolve,invoke,builtin,Builtin.min_,s]
 ·cases f
theorem DidV.of {s:Sem Value} {t:Sem Next} (d:DidV P s B w g h x h') (e:t=(do pure (.value (<-s)))):Did P t B w g h x h':=e▸d.did
theorem qn {s:Sem Next} {v:Value} (b:HOk B w g h) (hB:B<=w.heap.size) (c:s.run P w= .ok (.value v) w) (a:AR (ctx w g h) x v):Did P s B w g h x h:=
 ⟨.value v,v,w,g,c,.inl rfl,Good.refl b hB,a⟩
theorem Vy (G:HOk B w g h) (hB:B<=w.heap.size) (H:kN (ctx w g h) T a) (o:Oper) (C:zn P T h o.op=some (x,h')):Did P (execOp a.eval o) B w g h x h':=by
 obtain ⟨dst,op,type,pos,after,guard⟩:=o
 simp only at C
 have alloc:(qg P T op).map (λq=>(q.2 h.length,h++[q.1]))=some (x,h')->Did P (execOp a.eval ⟨dst,op,type,pos,after,guard⟩) B w g h x h':=λC=>by
  cases ha:qg P T op with
  | none=>rw[ha] at C;cases C
  | some q=>
    obtain ⟨o,mk⟩:=q
    rw[ha] at C
    injection C with C
    injection C with hx1 hx2
    subst hx1 hx2
    obtain ⟨v,w',W,m⟩:=J1 G hB H ha dst type pos after guard
    obtain ⟨g',e2,e3⟩:=m.more G hB
    exact ⟨.value v,v,w',g',W,.inl rfl,e2,e3⟩
 unfold zn at C
 split at C
 case h_1 y=>
  injection C with C;injection C with hx1 hx2;subst hx1 hx2
  exact qn G hB (by simp[execOp]) (qu H y)
 case h_2 y=>
  injection C with C;injection C with hx1 hx2;subst hx1 hx2
  exact qn G hB (by simp[execOp]) (qu H y)
 case h_3 c y z=>
  split at C
  ·rename_i t J
   injection C with C;injection C with hx1 hx2;subst hx1 hx2
   have e:=vu H J
   cases t
   ·exact qn G hB (v:=a.eval z) (by simp[execOp,e,asBool]) (qu H z)
   ·exact qn G hB (v:=a.eval y) (by simp[execOp,e,asBool]) (qu H y)
  ·cases C
 case h_4 t=>exact alloc C
 case h_5 t y=>exact alloc C
 case h_6 t n ps=>exact alloc C
 case h_7 t l c=>exact alloc C
 case h_8 t r=>exact alloc C
 case h_9 t ps=>
  split at C
  ·rename_i fs D
   split at C
   ·rename_i M
    cases hz:(zi P t).zero with
    | none=>rw[hz] at C;cases C
    | some z=>
      rw[hz] at C
      simp only[Option.bind_some] at C
      cases J:kG (Zx P fs) (z.map .v) (evs T ps.toList) with
      | none=>rw[J] at C;cases C
      | some cs=>
        rw[J] at C
        injection C with C;injection C with hx1 hx2;subst hx1 hx2
        exact (qSa G hB H D M hz J).of rfl
   ·cases C
  ·rename_i m e D
   split at C
   ·rename_i M
    cases hz:(zi P t).zero with
    | none=>rw[hz] at C;cases C
    | some z=>
      rw[hz] at C
      simp only[Option.bind_some] at C
      cases J:kG (vr (zi P e).sz) (z.map .v) (evs T ps.toList) with
      | none=>rw[J] at C;cases C
      | some cs=>
        rw[J] at C
        injection C with C;injection C with hx1 hx2;subst hx1 hx2
        exact (Kk G hB H D M hz J).of rfl
   ·cases C
  ·cases C
 case h_10 t p=>
  cases Q:ym h (zi P t) (ev T p) with
  | none=>rw[Q] at C;cases C
  | some y=>
    rw[Q] at C
    injection C with C;injection C with hx1 hx2;subst hx1 hx2
    exact (Wg G hB (qu H p) Q).of rfl
 case h_11 t p y=>
  split at C
  ·rename_i ht
   cases J:(ev T y).cells with
   | none=>rw[J] at C;cases C
   | some ns=>
     rw[J] at C
     simp only[Option.bind_some] at C
     split at C
     ·rename_i Q
      cases hs:vt h ns (ev T p) with
      | none=>rw[hs] at C;cases C
      | some h2=>
        rw[hs] at C
        injection C with C;injection C with hx1 hx2;subst hx1 hx2
        obtain ⟨w',g',W,e2⟩:=qTa G hB (qu H p) (qu H y) ht J Q hs
        exact ⟨.skip,undef,w',g',by simp[execOp,W],.inr ⟨rfl,rfl⟩,e2,rfl⟩
     ·cases C
  ·cases C
 case h_12 y=>
  have E:=qu H y
  split at C
  ·rename_i id off K
   injection C with C;injection C with hx1 hx2;subst hx1 hx2
   rw[K] at E
   obtain ⟨q,e⟩:=E
   exact qn G hB (v:=a.eval y) (by simp[execOp,e]) ⟨q,e⟩
  ·rename_i c e i k K
   injection C with C;injection C with hx1 hx2;subst hx1 hx2
   rw[K] at E
   obtain ⟨A,m,cp,q1,q2,e⟩:=E
   exact qn G hB (v:=a.eval y) (by simp[execOp,e]) ⟨A,m,cp,q1,q2,e⟩
  ·rename_i f p q K
   injection C with C;injection C with hx1 hx2;subst hx1 hx2
   rw[K] at E
   obtain ⟨us,vs,e,q⟩:=E
   exact qn G hB (v:=a.eval y) (by simp[execOp,e]) ⟨us,vs,e,q⟩
  ·cases C
 case h_13 op t y z _=>
  split at C
  ·rename_i hn
   cases hb:Wc P h op t (ev T y) with
   | none=>rw[hb] at C;cases C
   | some r=>
     rw[hb] at C
     injection C with C;injection C with hx1 hx2;subst hx1 hx2
     exact (vEa G hB H hn hb).of rfl
  ·cases hb:xja P op t (ev T y) (ev T z) with
   | none=>rw[hb] at C;cases C
   | some r=>
     rw[hb] at C
     injection C with C;injection C with hx1 hx2;subst hx1 hx2
     exact (vDa G hB H hb).of rfl
 case h_14 op _ y=>
  split at C
  ·rename_i k n K
   injection C with C;injection C with hx1 hx2;subst hx1 hx2
   have e:=vu H K
   exact qn G hB (by simp[execOp,e,Op.unary,Op.intArith]) rfl
  ·rename_i b K
   injection C with C;injection C with hx1 hx2;subst hx1 hx2
   have e:=vu H K
   exact qn G hB (by simp[execOp,e,Op.unary]) rfl
  ·cases C
 case h_15 s d y=>
  split at C
  ·rename_i k k' n hs hd K
   injection C with C;injection C with hx1 hx2;subst hx1 hx2
   have e:=vu H K
   obtain ⟨d1,i1,hu1,hi1,eq1⟩:=qa hs
   obtain ⟨d2,Z,O,N,I⟩:=qa (qb hd (by simp))
   rw[I] at hd
   cases d2<;>try (cases hd;done)
   injection hd with hd
   subst hd
   refine qn G hB (v:= .int _ (IntKind.wrap _ n)) ?_ rfl
   simp[execOp,e,convert,run_underlying hu1,run_underlying O,Conv.intToInt]
  ·rename_i rows hs hd K
   cases τ:xka P s rows with
   | none=>rw[τ] at C;cases C
   | some z=>
     rw[τ] at C
     injection C with C;injection C with hx1 hx2;subst hx1 hx2
     have E:=qu H y
     rw[K] at E
     obtain ⟨u,hr,eu⟩:=xoa G E hs hd τ
     exact qn G hB (v:=u) (by simp[execOp,hr]) eu
  ·cases C
 case h_16 f p q=>
  injection C with C;injection C with hx1 hx2;subst hx1 hx2
  refine qn G hB (v:= .func f (p.map a.eval) (q.map a.eval)) (by simp[execOp,Instr.makeFunc]) ⟨_,_,rfl,?_,?_⟩
  ·simpa using Zz H p.toList
  ·simpa using Zz H q.toList
 case h_17 t y i=>
  have E:=qu H y
  split at C
  ·rename_i fs D
   cases M:fs[i]? with
   | none=>rw[M] at C;cases C
   | some f=>
     rw[M] at C
     simp only[Option.bind_some] at C
     split at C
     ·rename_i J
      obtain ⟨d,ii,R,X,eq⟩:=qa (qb D (by simp))
      rw[eq] at D
      cases d<;>try (cases D;done)
      rename_i fields
      injection D with D
      obtain ⟨d2,Z,O,N,I⟩:=qa J.1
      have δ:Z.size≠0:=by have:=J.2;rw[I] at this;simp at this;omega
      rw[<-D,List.getElem?_map] at M
      cases S:fields.toList[i]? with
      | none=>rw[S] at M;cases M
      | some F=>
        rw[S] at M
        injection M with M
        subst M
        have V:fields[i]? =some F:=by simpa using S
        split at C
        ·rename_i id off K
         injection C with C;injection C with hx1 hx2;subst hx1 hx2
         rw[K] at E
         obtain ⟨q,e⟩:=E
         refine qn G hB (v:= .pointer (some ⟨g.β id,off+F.offset,none⟩)) ?_ ⟨q,rfl⟩
         simp[execOp,e,Instr.fieldAt,run_underlying R,V,Instr.sureAddr,fieldPlace,sizeOf,typeInfo,N,δ,Addr.add_lit,ctx]
        ·rename_i c e' j k K
         injection C with C;injection C with hx1 hx2;subst hx1 hx2
         rw[K] at E
         obtain ⟨A,m,cp,q1,q2,e⟩:=E
         refine qn G hB (v:= .pointer (some (A.add (j*e'+(k+F.offset))))) ?_ ⟨A,m,cp,q1,q2,rfl⟩
         simp[execOp,e,Instr.fieldAt,run_underlying R,V,Instr.sureAddr,fieldPlace,sizeOf,typeInfo,N,δ,Addr.add_add,Nat.add_assoc]
        ·cases C
     ·cases C
  ·cases C
 case h_19 t y i=>
  have E:=qu H y
  split at C
  ·rename_i e k n D K
   split at C
   ·rename_i J
    have W:=vu H K
    obtain ⟨d,ii,R,X,eq⟩:=qa (qb D (by simp))
    rw[eq] at D
    cases d<;>try (cases D;done)
    injection D with D
    subst D
    obtain ⟨d2,Z,O,N,I⟩:=qa J.1
    cases L:YI h n (ev T y) with
    | none=>rw[L] at C;cases C
    | some z=>
      rw[L] at C
      injection C with C;injection C with hx1 hx2;subst hx1 hx2
      unfold YI at L
      cases hr:zo h (ev T y) with
      | none=>rw[hr] at L;cases L
      | some xs=>
        rw[hr,J.2.2] at L
        simp only[Option.bind_some] at L
        split at L
        ·rename_i hn
         injection L with L
         subst L
         obtain ⟨A,cp,q1,q2,q3,_⟩:=xu G _ E hr
         have hra:=q3 _ J.2.2
         have ξ:n.toNat<xs.length:=by omega
         have hA:∃ad,A=some ad:=by
          have hrow:xs[n.toNat]? =some xs[n.toNat]:=List.getElem?_eq_getElem ξ
          have h0:=J.2.1
          have Q:=hra.len _ (List.getElem_mem ξ)
          obtain ⟨ad,u,z1,_⟩:=hra.cell _ 0 _ (nth xs[n.toNat] 0) hrow (vW (by omega))
          exact ⟨ad,z1⟩
         obtain ⟨ad,rfl⟩:=hA
         refine qn G hB (v:= .pointer (some (ad.add (n.toNat*Z.size)))) ?_ ⟨ad,xs.length,cp,by rw[<-q1];exact E,ξ,by rw[I,Nat.add_zero]⟩
         simp[execOp,W,q1,Instr.indexAt,asIntOf,run_underlying R,sizeOf,typeInfo,N,hn.1,hn.2]
        ·cases L
   ·cases C
  ·rename_i m e k n D K
   split at C
   ·rename_i J
    obtain ⟨c1,c2,c3⟩:=J
    have W:=vu H K
    obtain ⟨d,ii,R,X,eq⟩:=qa (qb D (by simp))
    rw[eq] at D
    cases d<;>try (cases D;done)
    injection D with hk1 hk2
    subst hk1 hk2
    obtain ⟨d2,Z,O,N,I⟩:=qa c1
    split at C
    ·rename_i id off ν
     injection C with C;injection C with hx1 hx2;subst hx1 hx2
     rw[ν] at E
     obtain ⟨q,e⟩:=E
     refine qn G hB (v:= .pointer (some ⟨g.β id,off+n.toNat*Z.size,none⟩)) ?_ ⟨q,by rw[I];rfl⟩
     simp[execOp,W,e,Instr.indexAt,asIntOf,run_underlying R,Instr.sureAddr,sizeOf,typeInfo,N,c2,c3,Addr.add_lit,ctx]
    ·rename_i c e' j k2 ν
     injection C with C;injection C with hx1 hx2;subst hx1 hx2
     rw[ν] at E
     obtain ⟨A,m',cp,q1,q2,e⟩:=E
     refine qn G hB (v:= .pointer (some (A.add (j*e'+(k2+n.toNat*Z.size))))) ?_ ⟨A,m',cp,q1,q2,by rw[I]⟩
     simp[execOp,W,e,Instr.indexAt,asIntOf,run_underlying R,Instr.sureAddr,sizeOf,typeInfo,N,c2,c3,Addr.add_add,Nat.add_assoc]
    ·cases C
   ·cases C
  ·cases C
 case h_18 t y i=>
  have E:=qu H y
  split at C
  ·rename_i fs cs D K
   cases M:fs[i]? with
   | none=>rw[M] at C;cases C
   | some f=>
     rw[M] at C
     simp only[Option.bind_some] at C
     split at C
     ·rename_i ho
      obtain ⟨d,ii,R,X,eq⟩:=qa (qb D (by simp))
      rw[eq] at D
      cases d<;>try (cases D;done)
      rename_i fields
      injection D with D
      rw[<-D,List.getElem?_map] at M
      cases S:fields.toList[i]? with
      | none=>rw[S] at M;cases M
      | some F=>
        rw[S] at M
        injection M with M
        subst M
        have V:fields[i]? =some F:=by simpa using S
        rw[K] at E
        obtain ⟨vs,e,q⟩:=E
        cases hp:part cs F.offset (zi P F.type).agg (zi P F.type).sz with
        | none=>rw[hp] at C;cases C
        | some r=>
          rw[hp] at C
          injection C with C;injection C with hx1 hx2;subst hx1 hx2
          obtain ⟨u,z1,z2⟩:=Wl (P:=P) (w:=w) ho q hp
          exact qn G hB (v:=u) (by simp[execOp,e,Instr.field,run_underlying R,V,asAgg,z1]) z2
     ·cases C
  ·cases C
 case h_20 t y i=>
  have E:=qu H y
  split at C
  ·rename_i m e cs k n D K hi
   split at C
   ·rename_i J
    obtain ⟨c1,c2,c3⟩:=J
    have W:=vu H hi
    obtain ⟨d,ii,R,X,eq⟩:=qa (qb D (by simp))
    rw[eq] at D
    cases d<;>try (cases D;done)
    injection D with hk1 hk2
    subst hk1 hk2
    rename_i m e
    obtain ⟨d2,Z,O,N,I⟩:=qa c1
    rw[K] at E
    obtain ⟨vs,ee,q⟩:=E
    cases hp:part cs (n.toNat*(zi P e).sz) (zi P e).agg (zi P e).sz with
    | none=>rw[hp] at C;cases C
    | some r=>
      rw[hp] at C
      injection C with C;injection C with hx1 hx2;subst hx1 hx2
      obtain ⟨u,z1,z2⟩:=Wl (P:=P) (w:=w) c1 q hp
      have δ:(zi P e).sz=Z.size:=by rw[I]
      rw[δ] at z1
      exact qn G hB (v:=u) (by simp[execOp,W,ee,Instr.index,asIntOf,run_underlying R,sizeOf,typeInfo,N,c2,c3,z1]) z2
   ·cases C
  ·cases C
 case h_21 t y lo hi=>
  split at C
  ·rename_i e D
   cases hr:zo h (ev T y) with
   | none=>rw[hr] at C;cases C
   | some xs=>
     rw[hr] at C
     simp only[Option.bind_some] at C
     cases Q:vY T 0 lo with
     | none=>rw[Q] at C;cases C
     | some l=>
       rw[Q] at C
       simp only[Option.bind_some] at C
       cases hm:vY T xs.length hi with
       | none=>rw[hm] at C;cases C
       | some m=>
         rw[hm] at C
         simp only[Option.bind_some] at C
         split at C
         ·rename_i J
          obtain ⟨c1,c2,c3,c4,c5⟩:=J
          injection C with C;injection C with hx1 hx2;subst hx1 hx2
          exact (qVa G hB H D hr Q hm c1 c2 c3 c4 c5).of rfl
         ·cases C
  ·cases C
 case h_22 t m k v=>
  split at C
  ·rename_i kt et id kk n D hm Y
   split at C
   ·rename_i kk' es U ho
    split at C
    ·rename_i heq
     subst heq
     cases hi:yv kk' n (ev T v) es with
     | none=>rw[hi] at C;cases C
     | some es'=>
       rw[hi] at C
       injection C with C;injection C with hx1 hx2;subst hx1 hx2
       obtain ⟨d,ii,R,X,eq⟩:=qa (qb D (by simp))
       rw[eq] at D
       cases d<;>try (cases D;done)
       injection D with hk1 hk2
       subst hk1 hk2
       obtain ⟨d2,Z,O,hin2,I⟩:=qa (qb U (by simp))
       rw[I] at U
       cases d2<;>try (cases U;done)
       have W:=vu H Y
       have E:=qu H m
       rw[hm] at E
       obtain ⟨q,e2⟩:=E
       obtain ⟨w',r1,r2⟩:=YN (P:=P) G hB R O ho (qu H v) hi
       refine ⟨.skip,undef,w',g,?_,.inr ⟨rfl,rfl⟩,r2,rfl⟩
       simp only[execOp,W,e2]
       have e3:(ctx w g h).β id=g.β id:=rfl
       rw[e3,Sem.run_bind,r1]
       rfl
    ·cases C
   ·cases C
  ·cases C
 case h_23 t m k ok=>
  split at C
  ·rename_i kt et id kk n D hm Y
   split at C
   ·rename_i kk' es z U ho hz
    split at C
    ·rename_i heq
     subst heq
     cases Q:Wd kk' n z es with
     | none=>rw[Q] at C;cases C
     | some p=>
       rw[Q] at C
       injection C with C;injection C with hx1 hx2;subst hx1 hx2
       unfold Wd at Q
       split at Q
       ·rename_i hko
        injection Q with Q
        subst Q
        obtain ⟨d,ii,R,X,eq⟩:=qa (qb D (by simp))
        rw[eq] at D
        cases d<;>try (cases D;done)
        injection D with hk1 hk2
        subst hk1 hk2
        obtain ⟨d2,Z,O,hin2,I⟩:=qa (qb U (by simp))
        rw[I] at U
        cases d2<;>try (cases U;done)
        have W:=vu H Y
        have E:=qu H m
        rw[hm] at E
        obtain ⟨q,e2⟩:=E
        obtain ⟨zu,z1,z2⟩:=xna (P:=P) (w:=w) (c:=ctx w g h) hz
        obtain ⟨p1,es0,k0,l',p2,p3,p4,p5⟩:=G.ok id _ ho
        obtain ⟨u,u1,u2⟩:=J5 (P:=P) (n:=n) (ok:=ok) R O p2 p3 p4 p5 hko z1 z2
        refine qn G hB (v:=u) ?_ u2
        simp only[execOp,W,e2,Sem.run_bind,u1]
        rfl
       ·cases Q
    ·cases C
   ·cases C
  ·cases C
 case h_24 y i=>
  have E:=qu H y
  split at C
  ·rename_i cs K
   split at C
   ·rename_i hi
    injection C with C;injection C with hx1 hx2;subst hx1 hx2
    rw[K] at E
    obtain ⟨vs,e,q⟩:=E
    obtain ⟨u,q1,q2⟩:=kF q i hi
    have q1':vs[i]? =some u:=by simpa using q1
    exact qn G hB (v:=u) (by simp[execOp,e,Instr.extract,q1']) q2
   ·cases C
  ·cases C
 case h_25 c=>exact xpa G hB H C
 case h_26=>cases C
end
section
variable {φ:Nat->Ob} {h h':List Ob} {P:Program} {x:AV} {T:Nat->AV} {i:Nat} {o:Ob}
theorem vv:∀(a:AV) {e:Nat},eOf h a=some e->eOf (fill φ h) a=some e
 | .sl _ _,_,b=>b
 | .tl id st,e,b=>by
   simp only[eOf] at b⊢
   split at b
   ·rename_i ty j ys s d
    rw[zK d rfl]
    exact b
   ·cases b
 | .vw a f i n,e,b=>by
   simp only[eOf] at b⊢
   cases c:eOf h a with
   | none=>rw[c] at b;cases b
   | some g=>rw[c] at b;rw[vv a c];exact b
 | .v _,_,b | .em,_,b | .ptr _ _,_,b | .ep _ _ _ _,_,b | .mp _,_,b | .ag _,_,b | .tup _,_,b | .fn _ _ _,_,b | .bad,_,b=>by cases b
theorem ja:∀(a:AV) {xs:List (List AV)},zo h a=some xs->zo (fill φ h) a=some xs
 | .sl _ _,_,b=>b
 | .em,_,b=>b
 | .tl id st,xs,b=>by
   simp only[zo] at b⊢
   split at b
   ·rename_i ty g ys s f
    rw[zK f rfl]
    exact b
   ·cases b
 | .vw a e i n,xs,b=>by
   simp only[zo] at b⊢
   cases c:zo h a with
   | none=>rw[c] at b;cases b
   | some ys=>
     rw[c] at b
     rw[ja a c]
     simp only[Option.bind_some] at b⊢
     split at b
     ·rename_i d
      rw[if_pos ⟨d.1,d.2.imp id (vv a)⟩]
      exact b
     ·cases b
 | .v x,xs,b=>by
   unfold zo at b⊢
   split at b
   ·rename_i heq;cases heq
   ·rename_i heq;cases heq
   ·rename_i heq;cases heq
   ·rename_i heq;cases heq;exact b
   ·rename_i heq;cases heq
   ·cases b
 | .ptr _ _,_,b | .ep _ _ _ _,_,b | .mp _,_,b | .ag _,_,b | .tup _,_,b | .fn _ _ _,_,b | .bad,_,b=>by cases b
theorem Wm (a:AV) (b:Zy h a=true):Zy (fill φ h) a=true:=by
 unfold Zy at b⊢
 rw[Bool.or_eq_true] at b⊢
 refine b.imp id λb=>?_
 cases c:zo h a with
 | none=>rw[c] at b;cases b
 | some xs=>cases d:eOf h a with
   | none=>rw[c,d] at b;cases xs<;>cases b
   | some e=>rw[c,d] at b;rw[ja a c,vv a d];exact b
theorem qXa {op:BinOp} {t:TypeId} (a:AV) (b:Wc P h op t a=some x):Wc P (fill φ h) op t a=some x:=by
 unfold Wc at b⊢
 cases e:(zi P t).kind<;>rw[e] at b<;>first
  | cases b;done
  | skip
 simp only at b⊢
 cases d:yB a with
 | true=>rw[d] at b;exact b
 | false=>
   rw[d] at b
   simp only[Bool.false_eq_true,if_false] at b⊢
   split at b
   ·rename_i c
    rw[if_pos (Wm _ c)];exact b
   ·cases b
theorem J6 {τ:Ty}:∀(a:AV),ym h τ a=some x->ym (fill φ h) τ a=some x
 | .ptr id off,b=>by
   simp only[ym] at b⊢
   split at b
   ·rename_i f
    simp only[zK f rfl]
    exact b
   ·cases b
 | .ep a e i k,b=>by
   simp only[ym] at b⊢
   split at b
   ·rename_i d
    rw[if_pos ⟨d.1,vv _ d.2⟩]
    cases c:zo h a with
    | none=>rw[c] at b;cases b
    | some xs=>rw[c] at b;rw[ja _ c];exact b
   ·cases b
 | .sl _ _,b | .tl _ _,b | .em,b | .vw _ _ _ _,b | .v _,b | .mp _,b | .ag _,b | .tup _,b | .fn _ _ _,b | .bad,b=>by cases b
theorem qYa {n:Int} (a:AV) (b:YI h n a=some x):YI (fill φ h) n a=some x:=by
 unfold YI at b⊢
 cases d:zo h a with
 | none=>rw[d] at b;cases b
 | some xs=>
   rw[d] at b
   cases c:eOf h a with
   | none=>rw[c] at b;cases b
   | some e=>rw[c] at b;rw[ja a d,vv a c];exact b
theorem Wn {ns:List AV}:∀(a:AV),vt h ns a=some h'->vt (fill φ h) ns a=some (fill φ h')/\ResK h h'
 | .ptr id off,b=>by
   simp only[vt] at b⊢
   split at b
   ·rename_i ty l d
    simp only[zK d rfl]
    cases c:lay l off ns with
    | none=>rw[c] at b;cases b
    | some j=>
      rw[c] at b
      injection b with b
      subst b
      exact ⟨by rw[qS rfl];rfl,zJ d rfl⟩
   ·cases b
 | .ep (.tl id st) e i k,b=>by
   simp only[vt] at b⊢
   split at b
   ·rename_i ty n xs s d
    simp only[zK d rfl]
    split at b
    ·rename_i g
     rw[if_pos g]
     cases f:xs[i]? with
     | none=>rw[f] at b;cases b
     | some r=>
       rw[f] at b
       simp only[Option.bind_some] at b⊢
       cases c:lay r k ns with
       | none=>rw[c] at b;cases b
       | some m=>
         rw[c] at b
         injection b with b
         subst b
         exact ⟨by rw[qS rfl];rfl,zJ d rfl⟩
    ·cases b
   ·cases b
 | .ep (.sl _ _) _ _ _,b | .ep .em _ _ _,b | .ep (.vw _ _ _ _) _ _ _,b | .ep (.v _) _ _ _,b | .ep (.ptr _ _) _ _ _,b | .ep (.ep _ _ _ _) _ _ _,b | .ep (.mp _) _ _ _,b | .ep (.ag _) _ _ _,b | .ep (.tup _) _ _ _,b | .ep (.fn _ _ _) _ _ _,b | .ep .bad _ _ _,b=>by cases b
 | .sl _ _,b | .tl _ _,b | .em,b | .vw _ _ _ _,b | .v _,b | .mp _,b | .ag _,b | .tup _,b | .fn _ _ _,b | .bad,b=>by cases b
theorem Vz (g:Upto φ h.length) {e:TypeId} (s y:AV) (a:wL P h e s y=some (x,h')):wL P (fill φ h) e s y=some (x,fill φ h')/\ResK h h':=by
 unfold wL at a⊢
 cases c:zo h y with
 | none=>simp[c] at a
 | some ys=>
   rw[ja y c]
   simp only[c,Option.bind_some] at a⊢
   split at a
   ·rename_i f
    rw[if_pos f]
    split at a
    ·split at a
     ·rename_i id st ty i xs s d
      simp only[zK d rfl]
      split at a
      ·rename_i b
       rw[if_pos b]
       injection a with a
       injection a with h1 h2
       subst h1 h2
       exact ⟨by rw[qS rfl],zJ d rfl⟩
      ·cases a
     ·cases a
    ·split at a
     ·rename_i b
      simp only[if_pos b]
      injection a with a
      injection a with h1 h2
      subst h1 h2
      exact ⟨by rw[q8 g,qc],zT⟩
     ·cases a
    ·cases a
   ·cases a
theorem Z9 {q:Nat × Nat × Nat × Nat}:∀(y:AV),jA h y=some q->jA (fill φ h) y=some q
 | .tl id st,a=>by
   simp only[jA] at a⊢
   split at a
   ·rename_i b;simp only[zK b rfl];exact a
   ·cases a
 | .vw (.tl id st) e i n,a=>by
   simp only[jA] at a⊢
   split at a
   ·rename_i b;simp only[zK b rfl];exact a
   ·cases a
 | .vw (.sl _ _) _ _ _,a | .vw .em _ _ _,a | .vw (.vw _ _ _ _) _ _ _,a | .vw (.v _) _ _ _,a | .vw (.ptr _ _) _ _ _,a | .vw (.ep _ _ _ _) _ _ _,a | .vw (.mp _) _ _ _,a | .vw (.ag _) _ _ _,a | .vw (.tup _) _ _ _,a | .vw (.fn _ _ _) _ _ _,a | .vw .bad _ _ _,a=>by cases a
 | .sl _ _,a | .em,a | .ptr _ _,a | .ep _ _ _ _,a | .v _,a | .mp _,a | .ag _,a | .tup _,a | .fn _ _ _,a | .bad,a=>by cases a
theorem Qa {id i ty e:Nat} {ys:List (List AV)} (a:jT h id i ty e ys=some h'):jT (fill φ h) id i ty e ys=some (fill φ h')/\ResK h h':=by
 unfold jT at a⊢
 split at a
 ·rename_i b
  simp only[zK b rfl]
  split at a
  ·rename_i c
   rw[if_pos c]
   injection a with a
   subst a
   exact ⟨by rw[qS rfl],zJ b rfl⟩
  ·cases a
 ·cases a
theorem YO (r:Upto φ h.length) (c:Call) (a:wu P T h c=some (x,h')):wu P T (fill φ h) c=some (x,fill φ h')/\ResK h h':=by
 unfold wu at a⊢
 split at a
 ·split at a
  ·rename_i e g
   cases d:zo h (ev T _) with
   | none=>rw[d] at a;cases a
   | some xs=>
     rw[d] at a
     injection a with a;injection a with h1 b;subst h1 b
     simp only[g,ja _ d]
     exact ⟨rfl,.refl⟩
  ·cases a
 ·split at a
  ·rename_i e g
   split at a
   ·rename_i s
    simp only[g,if_pos s]
    exact Vz r _ _ a
   ·cases a
  ·cases a
 ·split at a
  ·rename_i e g
   cases f:jA h (ev T _) with
   | none=>rw[f] at a;cases a
   | some q=>
     obtain ⟨id,st,i,n⟩:=q
     rw[f] at a
     simp only[Option.bind_some] at a
     cases p:(zi P e).zero with
     | none=>rw[p] at a;cases a
     | some z=>
       rw[p] at a
       simp only[Option.bind_some] at a
       split at a
       ·rename_i o
        cases d:jT h id i e (zi P e).sz (List.replicate n (z.map .v)) with
        | none=>rw[d] at a;cases a
        | some b=>
          rw[d] at a
          injection a with a;injection a with h1 b;subst h1 b
          obtain ⟨m,k⟩:=Qa (φ:=φ) d
          simp only[g,Z9 _ f,Option.bind_some,p,if_pos o,m]
          exact ⟨rfl,k⟩
       ·cases a
  ·cases a
 ·split at a
  ·rename_i e g
   split at a
   ·rename_i o
    cases f:jA h (ev T _) with
    | none=>rw[f] at a;cases a
    | some q=>
      obtain ⟨id,st,i,n⟩:=q
      rw[f] at a
      simp only[Option.bind_some] at a
      cases l:zo h (ev T _) with
      | none=>rw[l] at a;cases a
      | some ys=>
        rw[l] at a
        simp only[Option.bind_some] at a
        cases d:jT h id i e (zi P e).sz (ys.take n) with
        | none=>rw[d] at a;cases a
        | some b=>
          rw[d] at a
          injection a with a;injection a with h1 b;subst h1 b
          obtain ⟨m,k⟩:=Qa (φ:=φ) d
          simp only[g,if_pos o,Z9 _ f,Option.bind_some,ja _ l,m]
          exact ⟨rfl,k⟩
   ·cases a
  ·cases a
 ·cases j:Wa _ _ with
  | none=>rw[j] at a;cases a
  | some y=>
    rw[j] at a
    injection a with a;injection a with h1 b;subst h1 b
    exact ⟨rfl,.refl⟩
 ·cases j:Wb _ _ with
  | none=>rw[j] at a;cases a
  | some y=>
    rw[j] at a
    injection a with a;injection a with h1 b;subst h1 b
    exact ⟨rfl,.refl⟩
 ·cases a
theorem Wo {op:Op} {mk:Nat->AV} (a:qg P T op=some (o,mk)):o.isRes=false:=by
 unfold qg at a
 repeat' split at a
 all_goals first
  | cases a;done
  | (simp only[Option.map_eq_some_iff,Prod.mk.injEq] at a;obtain ⟨_,_,rfl,_⟩:=a;rfl)
  | (injection a with a;injection a with h1 h2;subst h1;rfl)
theorem qT {α:Type} {y:Option α} {f:α->AV} (b:(y.map λa=>(f a,h))=some (x,h')):∃a,y=some a/\f a=x/\h=h':=by
 cases y with
 | none=>cases b
 | some a=>injection b with b;injection b with h1 h2;exact ⟨a,rfl,h1,h2⟩
theorem wc (J:Upto φ h.length) (op:Op) (b:zn P T h op=some (x,h')):zn P T (fill φ h) op=some (x,fill φ h')/\ResK h h':=by
 have alloc:∀s,(qg P T s).map (λq=>(q.2 h.length,h++[q.1]))=some (x,h')->(qg P T s).map (λq=>(q.2 (fill φ h).length,fill φ h++[q.1]))=some (x,fill φ h')/\ResK h h':=λs b=>by
  cases I:qg P T s with
  | none=>rw[I] at b;cases b
  | some q=>
    rw[I] at b
    injection b with b;injection b with g d;subst g d
    exact ⟨by rw[q8 J,qc];rfl,zT⟩
 have same:∀ {y:AV},some (y,h)=some (x,h')->some (y,fill φ h)=some (x,fill φ h')/\ResK h h':=λe=>by
  injection e with e;injection e with g d;subst g d;exact ⟨rfl,.refl⟩
 cases op with
 | move y=>exact same b
 | assign y=>exact same b
 | makeFunc f p q=>exact same b
 | alloc t=>exact alloc _ b
 | box t y=>exact alloc _ b
 | buildSlice t n G=>exact alloc _ b
 | makeSlice t l c=>exact alloc _ b
 | makeMap t r=>exact alloc _ b
 | call c=>exact YO J c b
 | load t y=>
   obtain ⟨a,g,d,o⟩:=qT b
   subst d o
   exact ⟨by simp only[zn,J6 _ g];rfl,.refl⟩
 | store t y z=>
   simp only[zn] at b⊢
   split at b
   ·rename_i Q
    cases j:(ev T z).cells with
    | none=>rw[j] at b;cases b
    | some ns=>
      rw[j] at b
      simp only[Option.bind_some] at b
      split at b
      ·rename_i w
       cases D:vt h ns (ev T y) with
       | none=>rw[D] at b;cases b
       | some d=>
         rw[D] at b
         injection b with b;injection b with g d;subst g d
         obtain ⟨O,N⟩:=Wn (φ:=φ) _ D
         exact ⟨by simp only[if_pos Q,j,Option.bind_some,if_pos w,O];rfl,N⟩
      ·cases b
   ·cases b
 | binOp op t y z u=>
   simp only[zn] at b⊢
   split at b
   ·rename_i H
    obtain ⟨a,g,d,o⟩:=qT b
    subst d o
    exact ⟨by simp only[if_pos H,qXa _ g];rfl,.refl⟩
   ·rename_i H
    obtain ⟨a,g,d,o⟩:=qT b
    subst d o
    exact ⟨by simp only[if_neg H,g];rfl,.refl⟩
 | indexAddr t y z=>
   simp only[zn] at b⊢
   split at b
   ·split at b
    ·rename_i j
     obtain ⟨a,g,d,o⟩:=qT b
     subst d o
     exact ⟨by simp only[if_pos (show _/\_/\_ from ⟨j.1,j.2.1,vv (φ:=φ) _ j.2.2⟩),qYa _ g];rfl,.refl⟩
    ·cases b
   ·split at b
    ·rename_i j
     simp only[if_pos j]
     split at b
     ·exact same b
     ·exact same b
     ·cases b
    ·cases b
   ·cases b
 | slice t y lo B M=>
   cases M with
   | some m=>cases b
   | none=>
     simp only[zn] at b⊢
     split at b
     ·rename_i e R
      cases F:zo h (ev T y) with
      | none=>rw[F] at b;cases b
      | some xs=>
        rw[F] at b
        simp only[ja _ F,Option.bind_some] at b⊢
        cases w:vY T 0 lo with
        | none=>rw[w] at b;cases b
        | some l=>
          rw[w] at b
          simp only[Option.bind_some] at b⊢
          cases K:vY T xs.length B with
          | none=>rw[K] at b;cases b
          | some m=>
            rw[K] at b
            simp only[Option.bind_some] at b⊢
            split at b
            ·rename_i j
             rw[if_pos ⟨j.1,j.2.1,j.2.2.1,j.2.2.2.1,j.2.2.2.2.imp id λk=>⟨k.1,vv _ k.2⟩⟩]
             exact same b
            ·cases b
     ·cases b
 | insert t m k v=>
   simp only[zn] at b⊢
   split at b
   ·split at b
    ·rename_i kk' es A C
     simp only[zK C rfl]
     split at b
     ·rename_i heq
      simp only[A,if_pos heq]
      cases B:yv _ _ (ev T v) es with
      | none=>rw[B] at b;cases b
      | some es'=>
        rw[B] at b
        injection b with b;injection b with g d;subst g d
        exact ⟨by rw[qS rfl];rfl,zJ C rfl⟩
     ·cases b
    ·cases b
   ·cases b
 | lookup t m k ok=>
   simp only[zn] at b⊢
   split at b
   ·split at b
    ·rename_i kk' es z A C L
     simp only[zK C rfl,L]
     split at b
     ·rename_i heq
      simp only[A,if_pos heq]
      cases w:Wd _ _ z es with
      | none=>rw[w] at b;cases b
      | some p=>
        rw[w] at b
        exact same b
     ·cases b
    ·cases b
   ·cases b
 | build t G=>
   have h0:∀h,zn P T h (.build t G)=(zn P T [] (.build t G)).map λq=>(q.1,h):=λh=>by
    simp only[zn]
    split
    ·split
     ·cases (zi P t).zero with
      | none=>rfl
      | some z=>simp only[Option.bind_some];cases kG _ _ _<;>rfl
     ·rfl
    ·split
     ·cases (zi P t).zero with
      | none=>rfl
      | some z=>simp only[Option.bind_some];cases kG _ _ _<;>rfl
     ·rfl
    ·rfl
   rw[h0] at b⊢
   obtain ⟨a,g,d,o⟩:=qT b
   subst d o
   exact ⟨by rw[g];rfl,.refl⟩
 | fieldAddr t y i=>
   have h0:∀h,zn P T h (.fieldAddr t y i)=(zn P T [] (.fieldAddr t y i)).map λq=>(q.1,h):=λh=>by
    simp only[zn]
    split
    ·rename_i E _
     cases E[i]? with
     | none=>rfl
     | some f=>
       simp only[Option.bind_some]
       split
       ·split<;>rfl
       ·rfl
    ·rfl
   rw[h0] at b⊢
   obtain ⟨a,g,d,o⟩:=qT b
   subst d o
   exact ⟨by rw[g];rfl,.refl⟩
 | field t y i=>
   have h0:∀h,zn P T h (.field t y i)=(zn P T [] (.field t y i)).map λq=>(q.1,h):=λh=>by
    simp only[zn]
    split
    ·rename_i E _ _ _
     cases E[i]? with
     | none=>rfl
     | some f=>
       simp only[Option.bind_some]
       split
       ·cases part _ _ _ _<;>rfl
       ·rfl
    ·rfl
   rw[h0] at b⊢
   obtain ⟨a,g,d,o⟩:=qT b
   subst d o
   exact ⟨by rw[g];rfl,.refl⟩
 | _=>
   simp only[zn] at b⊢
   try cases b
   all_goals (repeat' split at b)
   all_goals first
    | cases b;done
    | exact same b
    | (obtain ⟨a,g,d,o⟩:=qT b;subst d o;exact ⟨by simp only[g];rfl,.refl⟩)
    | (rename_i j;rw[if_pos j];exact same b)
    | (rename_i j;rw[if_neg j];exact same b)
    | (rename_i j;rw[if_pos j];obtain ⟨a,g,d,o⟩:=qT b;subst d o;exact ⟨by simp only[g];rfl,.refl⟩)
end
end Go.Proofs.YtfmldcilgbbimaaGreat.Ax
