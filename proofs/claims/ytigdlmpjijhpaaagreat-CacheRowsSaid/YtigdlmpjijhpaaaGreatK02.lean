import Derived.Test.YtigdlmpjijhpaaaGreatKA
import Derived.Test.YtigdlmpjijhpaaaGreatK01
import Derived.Laws.Pointers
import Derived.WalkSpells
import Derived.ChangeKeysEq
import Derived.Laws.BytesString
import Derived.Laws.Cells
set_option linter.all false
namespace Go.Proofs.YtigdlmpjijhpaaaGreat.Ax
open Go Go.RowKit
section
variable {B:Nat} {w:World} {g:Gh} {h h':List Ob} {P:Program} {x:AV} {T:Nat->AV} {a:Act}
theorem KN(d:Nat):∀(l:List Field) (o:Nat) (xs ys:List AV) (us vs:List Value) (U V:Array Value) (r:Bool),
  yq P o (l.map λf=>(f.offset,f.type))=true->(l.all λf=>f.name != "_")=true->xs.length=l.length->kL xs ys=some r->ARs (ctx w g h) xs us->ARs (ctx w g h) ys vs->
  (∀j,us[j]? =U[o+j]?)->(∀j,vs[j]? =V[o+j]?)->(Op.eqFields (d+1) U V l).run P w= .ok r w
 | [],o,xs,ys,us,vs,U,V,r,_,_,t,a,_,_,_,_=>by
   have:xs=[]:=zF t
   subst this
   cases ys with
   | nil=>injection a with a;subst a;simp[Op.eqFields]
   | cons y ys=>cases a
 | f::l,o,xs,ys,us,vs,U,V,r,hi,G,t,a,N,T,M,K=>by
   cases xs with
   | nil=>cases t
   | cons x xs=>
     cases ys with
     | nil=> cases x<;>try (cases a;done)
             rename_i v;cases v<;>cases a
     | cons y ys=>
       cases x<;>try (cases a;done)
       rename_i x
       cases x<;>try (cases a;done)
       rename_i k m
       cases y<;>try (cases a;done)
       rename_i y
       cases y<;>try (cases a;done)
       rename_i k' s
       simp only[kL] at a
       split at a
       ·rename_i R
        subst R
        cases D:kL xs ys with
        | none=>rw[D] at a;cases a
        | some X=>
          rw[D] at a
          injection a with a
          obtain⟨u,F,A,c,H⟩:=N
          obtain⟨v,C,E,e,I⟩:=T
          have c:u= .int k m:=c
          have e:v= .int k s:=e
          subst c e A E
          simp only[List.map_cons,yq,zq,beq_iff_eq] at hi
          obtain⟨⟨L,n⟩,hi⟩:=hi
          simp only[List.all_cons,zq] at G
          cases b:(zP P f.type).kind<;>rw[b] at n<;>try (cases n;done)
          rename_i kk
          obtain⟨Q,ii,i,S,eq⟩:=jx (jB b (by simp))
          rw[eq] at b
          cases Q<;>try (cases b;done)
          rename_i k2
          have q:=M 0
          have p:=K 0
          simp only[List.getElem?_cons_zero,Nat.add_zero] at q p
          have B:(_root_.Go.part f.type U f.offset).run P w= .ok (.int k m) w:=by
           simp[Go.part,isAgg,run_underlying i,L, <-q]
          have J:(_root_.Go.part f.type V f.offset).run P w= .ok (.int k s) w:=by
           simp[Go.part,isAgg,run_underlying i,L, <-p]
          have O:=KN d l (o+1) xs ys F C U V X hi G.2 (by simpa using t) D H I
           (λj=>by have:=M (j+1);rw[show o+1+j=o+(j+1) by omega];simpa using this) (λj=>by have:=K (j+1);rw[show o+1+j=o+(j+1) by omega];simpa using this)
          have z:f.name≠ "_" :=by simpa using G.1
          simp only[Op.eqFields,z,ne_eq,not_false_eq_true,if_true,Sem.run_bind,B,J,Result.andThen_ok,run_equalIn_int w d f.type k k2 m s i,Sem.run_ite,Sem.run_pure,O]
          cases W:(m==s)<;>simp[<-a,W]
       ·cases a
theorem VB(o:wT (ctx w g h) T a){t:TypeId}{X Y:Operand}{xs ys:List AV}{m:List (Nat × TypeId)}{b:Bool}(r:ev T X= .ag xs)(q:ev T Y= .ag ys)(c:(zP P t).kind= .struct m)(e:xB P t=true)(hi:yq P 0 m=true)(x:xs.length=m.length)(u:kL xs ys=some b):
  ∃U V,a.eval X= .agg U/\a.eval Y= .agg V/\(Op.equalIn 10000 t (.agg U) (.agg V)).run P w= .ok b w/\P.eqGuardType P.depth t=false:=by
 have f:=jV o X
 have k:=jV o Y
 rw[r] at f
 rw[q] at k
 obtain⟨U,v,f⟩:=f
 obtain⟨V,s,k⟩:=k
 obtain⟨d,i,n,p,eq⟩:=jx (jB c (by simp))
 rw[eq] at c
 cases d<;>try (cases c;done)
 rename_i fields
 injection c with c
 simp only[xB,zq,Bool.not_eq_true'] at e
 have l:P.fieldsOf t=fields:=by simp[Program.fieldsOf,n]
 rw[l] at e
 refine⟨U,V,v,s,?_,e.1.1⟩
 rw[run_equalIn_struct (P:=P) w 9999 t U V (by rw[l];exact n) e.1.2,l]
 exact KN (g:=g) (h:=h) 9998 fields.toList 0 xs ys U.toList V.toList U V b (by rw[<-c] at hi;exact hi) e.2 (by rw[x, <-c];simp) u f k (λj=>by simp) (λj=>by simp)
theorem Wn(d:Nat){e:TypeId}{k2:IntKind}(b:P.underlying e=some (.int k2)):∀(xs ys:List AV) (o:Nat) (us vs:List Value) (U V:Array Value) (r:Bool),kL xs ys=some r->ARs (ctx w g h) xs us->ARs (ctx w g h) ys vs->(∀j,us[j]? =U[o+j]?)->(∀j,vs[j]? =V[o+j]?)->
  (Op.eqItems (d+1) e 1 U V (List.range' o xs.length)).run P w= .ok r w
 | [],ys,o,us,vs,U,V,r,a,G,H,E,z=>by
   cases ys with
   | nil=>injection a with a;subst a;rfl
   | cons y ys=>cases a
 | x::xs,ys,o,us,vs,U,V,r,a,G,H,E,z=>by
   cases ys with
   | nil=> cases x<;>try (cases a;done)
           rename_i v;cases v<;>cases a
   | cons y ys=>
     cases x<;>try (cases a;done)
     rename_i x
     cases x<;>try (cases a;done)
     rename_i k m
     cases y<;>try (cases a;done)
     rename_i y
     cases y<;>try (cases a;done)
     rename_i k' n
     simp only[kL] at a
     split at a
     ·rename_i J
      subst J
      cases t:kL xs ys with
      | none=>rw[t] at a;cases a
      | some L=>
        rw[t] at a
        injection a with a
        obtain⟨u,B,p,c,C⟩:=G
        obtain⟨v,s,A,f,D⟩:=H
        have c:u= .int k m:=c
        have f:v= .int k n:=f
        subst c f p A
        have l:=E 0
        have i:=z 0
        simp only[List.getElem?_cons_zero,Nat.add_zero] at l i
        have q:(_root_.Go.part e U (o*1)).run P w= .ok (.int k m) w:=by
         simp[Go.part,isAgg,run_underlying b, <-l]
        have F:(_root_.Go.part e V (o*1)).run P w= .ok (.int k n) w:=by
         simp[Go.part,isAgg,run_underlying b, <-i]
        have I:=Wn d b xs ys (o+1) B s U V L t C D
         (λj=>by have:=E (j+1);rw[show o+1+j=o+(j+1) by omega];simpa using this) (λj=>by have:=z (j+1);rw[show o+1+j=o+(j+1) by omega];simpa using this)
        rw[List.length_cons,List.range'_succ]
        simp only[Op.eqItems,Sem.run_bind,q,F,Result.andThen_ok,run_equalIn_int w d e k k2 m n b,Sem.run_ite,Sem.run_pure,I]
        cases K:(m==n)<;>simp[<-a,K]
     ·cases a
theorem YKa(y:wT (ctx w g h) T a){t e:TypeId}{n:Nat}{X Y:Operand}{xs ys:List AV}{b:Bool}(E:ev T X= .ag xs)(C:ev T Y= .ag ys)(p:(zP P t).kind= .arr n e)(v:xB P t=true)(hi:K0a P e=true)(D:xs.length=n)(z:kL xs ys=some b):
  ∃U V,a.eval X= .agg U/\a.eval Y= .agg V/\(Op.equalIn 10000 t (.agg U) (.agg V)).run P w= .ok b w/\P.eqGuardType P.depth t=false:=by
 have o:=jV y X
 have q:=jV y Y
 rw[E] at o
 rw[C] at q
 obtain⟨U,A,o⟩:=o
 obtain⟨V,I,q⟩:=q
 obtain⟨d,i,G,H,eq⟩:=jx (jB p (by simp))
 rw[eq] at p
 cases d<;>try (cases p;done)
 rename_i n' x
 injection p with hk1 hk2
 subst hk1
 subst hk2
 simp only[xB,zq,Bool.not_eq_true'] at v
 simp only[K0a,zq,beq_iff_eq] at hi
 obtain⟨m,c⟩:=hi
 cases f:(zP P x).kind<;>rw[f] at m<;>try (cases m;done)
 rename_i k
 obtain⟨B,F,u,l,r⟩:=jx (jB f (by simp))
 rw[r] at f c
 cases B<;>try (cases f;done)
 have s:P.cellsOf x=1:=by
  have c:F.size=1:=c
  simp[Program.cellsOf,l,c]
 refine⟨U,V,A,I,?_,v.1.1⟩
 rw[run_equalIn_array (P:=P) w 9999 U V G l,s,List.range_eq_range', <-D]
 exact Wn (g:=g) (h:=h) 9998 u xs ys 0 U.toList V.toList U V b z o q (λj=>by simp) (λj=>by simp)
theorem K3a(y:HOk B w g h)(hB:B<=w.heap.size)(u:wT (ctx w g h) T a){op:BinOp}{t:TypeId}{X Y:Operand}(c:Jea P op t (ev T X) (ev T Y)=some x):
  DidV P (do eqGuard op t X Y (a.eval X) (a.eval Y);binOp op t (a.eval X) (a.eval Y)) B w g h x h:=by
 unfold Jea at c
 split at c
 ·rename_i k m k' n r s
  have j:=Zi u r
  have l:=Zi u s
  have H:(eqGuard op t X Y (.int k m) (.int k' n)).run P w= .ok () w:=by cases op<;>simp[eqGuard]
  split at c
  ·split at c
   ·rename_i I
    have G:¬ n<0:=by omega
    rw[j,l]
    cases op<;>simp only[vsa] at c<;>first
     | cases c;done
     | (injection c with c
        subst c
        refine jL y hB ?_ rfl
        simp[H,binOp,Op.shift,G]
        done)
   ·cases c
  ·rename_i J
   split at c
   ·rename_i f
    subst f
    rw[j,l]
    cases op<;>simp only[vta] at c<;>first
     | cases c;done
     | (injection c with c;subst c
        refine jL y hB ?_ rfl
        simp[H,binOp,Op.intArith,Op.intCmp,Op.intDiv,Op.intBits]
        done)
     | (split at c
        ·cases c
        ·rename_i I
         injection c with c
         subst c
         refine jL y hB ?_ rfl
         simp[H,binOp,Op.intDiv,I])
   ·cases c
 ·rename_i p q r s
  have j:=Zi u r
  have l:=Zi u s
  split at c
  ·rename_i f
   injection c with c
   subst c
   obtain⟨d,i,A,C,eq⟩:=jx (jB f (by simp))
   rw[eq] at f
   cases d<;>try (cases f;done)
   rw[j,l]
   refine jL y hB ?_ rfl
   simp[eqGuard,binOp,Op.equal,Op.maxDepth,run_equalIn_bool' w 9999 t p q A]
  ·rename_i f
   injection c with c
   subst c
   obtain⟨d,i,A,C,eq⟩:=jx (jB f (by simp))
   rw[eq] at f
   cases d<;>try (cases f;done)
   rw[j,l]
   refine jL y hB ?_ rfl
   simp[eqGuard,binOp,Op.equal,Op.maxDepth,run_equalIn_bool' w 9999 t p q A]
  ·cases c
 ·rename_i xs ys r s
  split at c
  ·rename_i K f
   split at c
   ·rename_i o
    simp only[zq,beq_iff_eq] at o
    cases v:kL xs ys with
    | none=>rw[v] at c;cases c
    | some b=>
      rw[v] at c
      injection c with c
      subst c
      obtain⟨U,V,j,l,D,E⟩:=VB u r s f o.1.1 o.1.2 o.2 v
      rw[j,l]
      refine jL y hB ?_ rfl
      simp only[Sem.run_bind,run_eqGuard_agg w _ t X Y U V E,Result.andThen_ok,run_eql_struct,D]
   ·cases c
  ·rename_i K f
   split at c
   ·rename_i o
    simp only[zq,beq_iff_eq] at o
    cases v:kL xs ys with
    | none=>rw[v] at c;cases c
    | some b=>
      rw[v] at c
      injection c with c
      subst c
      obtain⟨U,V,j,l,D,E⟩:=VB u r s f o.1.1 o.1.2 o.2 v
      rw[j,l]
      refine jL y hB ?_ rfl
      simp only[Sem.run_bind,run_eqGuard_agg w _ t X Y U V E,Result.andThen_ok,run_neq_struct,D]
   ·cases c
  ·rename_i n e f
   split at c
   ·rename_i o
    simp only[zq,beq_iff_eq] at o
    cases v:kL xs ys with
    | none=>rw[v] at c;cases c
    | some b=>
      rw[v] at c
      injection c with c
      subst c
      obtain⟨U,V,j,l,D,E⟩:=YKa u r s f o.1.1 o.1.2 o.2 v
      rw[j,l]
      refine jL y hB ?_ rfl
      simp only[Sem.run_bind,run_eqGuard_agg w _ t X Y U V E,Result.andThen_ok,run_eql_struct,D]
   ·cases c
  ·cases c
 ·rename_i r s
  have j:=Zi u r
  have l:=Zi u s
  split at c
  all_goals first|cases c;done|skip
  all_goals
   rename_i f
   injection c with c
   subst c
   obtain⟨d,i,A,C,eq⟩:=jx (jB f (by simp))
   rw[eq] at f
   cases d<;>try (cases f;done)
   rw[j,l]
   refine jL y hB ?_ rfl
   have z:P.underlying t=some (.pointer (P.pointee t)):=by simp[Program.pointee,A]
   simp[eqGuard,run_eql_pointer_nil w t _ z,run_neq_pointer_nil w t _ z]
 ·rename_i id off r s
  have F:=jV u X
  rw[r] at F
  obtain⟨_,j⟩:=F
  have l:=Zi u s
  split at c
  all_goals first|cases c;done|skip
  all_goals
   rename_i f
   injection c with c
   subst c
   obtain⟨d,i,A,C,eq⟩:=jx (jB f (by simp))
   rw[eq] at f
   cases d<;>try (cases f;done)
   rw[j,l]
   refine jL y hB ?_ rfl
   have z:P.underlying t=some (.pointer (P.pointee t)):=by simp[Program.pointee,A]
   simp[eqGuard,run_eql_pointer_nil w t _ z,run_neq_pointer_nil w t _ z]
 ·rename_i p q r s
  have j:=Zi u r
  have l:=Zi u s
  rw[j,l]
  cases op<;>simp only at c<;>first
   | cases c;done
   | (injection c with c
      subst c
      refine jL y hB ?_ rfl
      simp[eqGuard,binOp,Op.stringOp])
 ·cases c
theorem xAa(m:HOk B w g h){y:AV}{u:Value}(a:X7 h y=true)(c:AR (ctx w g h) y u):∃A n k,u= .slice (some A) n k:=by
 unfold X7 at a
 rw[Bool.or_eq_true] at a
 rcases a with a|a
 ·unfold YIa at a
  split at a
  ·obtain⟨A,k,e⟩:=c;exact⟨A,0,k,e⟩
  ·cases a
 ·unfold jta at a
  split at a
  ·rename_i r rs e i f
   simp only[decide_eq_true_eq] at a
   obtain⟨A,k,l,p,j,_⟩:=wA m _ c i
   have b:=j e f
   have s:=b.len r (by simp)
   obtain⟨d,q,o,_⟩:=b.cell 0 0 r (nth r 0) rfl (Z0 (by omega))
   subst o
   exact⟨d,_,_,l⟩
  ·cases a
theorem K4a(r:HOk B w g h)(hB:B<=w.heap.size)(E:wT (ctx w g h) T a){op:BinOp}{t:TypeId}{X Y:Operand}(q:Xo Y=true)(f:xua P h op t (ev T X)=some x):
  DidV P (do eqGuard op t X Y (a.eval X) (a.eval Y);binOp op t (a.eval X) (a.eval Y)) B w g h x h:=by
 have z:∃n c,a.eval Y= .slice none n c:=by
  unfold Xo at q
  split at q
  ·exact⟨_,_,rfl⟩
  ·cases q
 obtain⟨n,c,D⟩:=z
 rw[D]
 unfold xua at f
 split at f
 ·rename_i e s
  obtain⟨d,i,u,y,eq⟩:=jx (jB s (by simp))
  rw[eq] at s
  cases d<;>try (cases s;done)
  have key:∀A m k b,a.eval X= .slice A m k->A.isNone=b->Yi op b=some x->DidV P (do eqGuard op t X Y (a.eval X) (.slice none n c);binOp op t (a.eval X) (.slice none n c)) B w g h x h:=λA m k b o v j=>by
   rw[o]
   cases op<;>simp only[Yi] at j<;>first
    | cases j;done
    | skip
   ·injection j with j
    subst j
    refine jL r hB ?_ rfl
    simp[eqGuard,Lib.run_eql_slice_nil w t _ A m k n c u,v]
   ·injection j with j
    subst j
    refine jL r hB ?_ rfl
    simp[eqGuard,run_neq_slice_nil_any w t _ A m k n c u,v]
  have l:=jV E X
  split at f
  ·rename_i p
   unfold xV at p
   split at p
   ·rename_i m k o
    rw[o] at l
    have l:a.eval X= .slice none m k:=l
    exact key none m k true l rfl f
   ·cases p
  ·split at f
   ·rename_i C
    obtain⟨A,m,k,o⟩:=xAa r C l
    exact key (some A) m k false o rfl f
   ·cases f
 ·cases f
end
section
variable {B:Nat} {w:World} {g:Gh} {h h':List Ob} {P:Program} {x:AV} {T:Nat->AV} {a:Act}
theorem Yl(E:HOk B w g h){y:AV}{u:Value}{id st i n:Nat}(a:vl h y=some (id,st,i,n))(C:AR (ctx w g h) y u):
  ∃ty e xs A k,h[id]? =some (.row ty e xs st)/\i+n<=xs.length/\u= .slice A n k/\(0<n->∃l m f,g.cur id= .slice (some l) m f/\A=some (l.add (i*e))):=by
 unfold vl at a
 split at a
 ·rename_i b st'
  split at a
  ·rename_i ty e xs s j
   split at a
   ·rename_i p
    injection a with a
    injection a with h1 a
    injection a with h2 a
    injection a with h3 h4
    subst h1 h2 h3 h4
    subst p
    have q:=Qh C j
    obtain⟨I,R,cells,z,L⟩:=E.ok _ _ j
    obtain⟨A,f,c,Q⟩:=yo z
    have c:g.cur b= .slice A xs.length f:=c
    refine⟨ty,e,xs,A,f,j,by omega,q.trans c,λo=>?_⟩
    rcases z.2 with⟨d,t⟩|⟨O,cap,cur,d,_⟩
    ·rw[t] at o;simp at o
    ·have d:g.cur b=_:=d
     rw[d] at c
     injection c with c e3 e4
     exact⟨_,_,_,d,by rw[<-c,Nat.zero_mul];rfl⟩
   ·cases a
  ·cases a
 ·rename_i b st' P K J
  split at a
  ·rename_i ty e xs s j
   split at a
   ·rename_i p
    obtain⟨r,x,v⟩:=p
    injection a with a
    injection a with h1 a
    injection a with h2 a
    injection a with h3 h4
    subst h1 h2 h3 h4
    subst r x
    obtain⟨A,m,f,H,k,D,M,N,F,G,_⟩:=C
    have q:=Qh D j
    refine⟨ty,e,xs,H,k,j,v,F,λo=>?_⟩
    obtain⟨l,d,t⟩:=G o
    subst d
    exact⟨l,m,f,q.symm,t⟩
   ·cases a
  ·cases a
 ·cases a
theorem qS{α:Type}{l:List α}{i:Nat}{a:α}(h:l[i]? =some a):l.set i a=l:=by
 apply qX
 intro j
 by_cases b:i=j
 ·subst b;rw[zo (zd.1 h).1,h]
 ·rw[zc b]
theorem yia:∀(p q r s:List AV),q.length=s.length->lay (p++q++r) p.length s=some (p++s++r)
 | [],q,r,s,c=>by
   have key:∀(s q:List AV),q.length=s.length->lay (q++r) 0 s=some (s++r):=by
    intro s
    induction s with
    | nil=>
      intro q b
      have:q=[]:=zF (by simpa using b)
      subst this
      simp only[List.nil_append]
      cases r<;>rfl
    | cons y s d=>
      intro q b
      cases q with
      | nil=>cases b
      | cons z q=>
        simp only[List.cons_append,lay]
        rw[d q (by simpa using b)]
        rfl
   simpa using key s q c
 | a::p,q,r,s,c=>by
   have:=yia p q r s c
   simp only[List.cons_append,List.length_cons,lay]
   rw[this]
   rfl
theorem Jfa{e:Nat}{xs ys:List (List AV)}{i:Nat}(c:∀x∈xs,x.length=e)(g:∀y∈ys,y.length=e)(hi:i+ys.length<=xs.length):
  lay xs.flatten (i*e) ys.flatten=some (kN xs i ys).flatten/\(∀x∈kN xs i ys,x.length=e)/\(kN xs i ys).length=xs.length:=by
 have j:xs=xs.take i++(xs.drop i).take ys.length++xs.drop (i+ys.length):=by
  rw[zr, <-List.drop_drop,qQ,qQ]
 have a:∀x∈xs.take i,x.length=e:=λx h=>c x (List.mem_of_mem_take h)
 have b:∀x∈(xs.drop i).take ys.length,x.length=e:=λx h=>c x (List.mem_of_mem_drop (List.mem_of_mem_take h))
 have f:(xs.take i).flatten.length=i*e:=by rw[vR a];congr 1;simp;omega
 have d:((xs.drop i).take ys.length).flatten.length=ys.flatten.length:=by rw[vR b,vR g];congr 1;simp;omega
 refine⟨?_,λx h=>?_,by simp[kN];omega⟩
 ·have:=yia (xs.take i).flatten ((xs.drop i).take ys.length).flatten (xs.drop (i+ys.length)).flatten ys.flatten d
  rw[f] at this
  conv=>lhs;rw[j]
  simp only[List.flatten_append,kN]
  exact this
 ·unfold kN at h
  rcases zI.1 h with h|h
  ·rcases zI.1 h with h|h
   ·exact a x h
   ·exact g x h
  ·exact c x (List.mem_of_mem_drop h)
theorem xBa(d:HOk B w g h)(hB:B<=w.heap.size){id st i n ty e:Nat}{xs ys:List (List AV)}(f:h[id]? =some (.row ty e xs st))(a:i+ys.length<=xs.length)(k:∀y∈ys,y.length=e){c:Addr}{m j:Nat}(q:g.cur id= .slice (some c) m j)
  {vs:List Value} (b:ARs (ctx w g h) ys.flatten vs) (l:∀v∈vs,v.oneCell'=true):
  ∃w' g',(storeCells (c.add (i*e)) vs).run P w= .ok () w'/\Good B w g h w' g' (h.set id (.row ty e (kN xs i ys) st)):=by
 obtain⟨s,o,cells,t,r⟩:=d.ok _ _ f
 obtain⟨p,l2,l3⟩:=Jfa o k a
 exact yha d hB f q b l p l2 l3
theorem Zoa(E:HOk B w g h)(hB:B<=w.heap.size){t ty e:TypeId}{y:AV}{u:Value}(hu:AR (ctx w g h) y u)(f:(zP P t).kind= .slice e){id st i n:Nat}(I:vl h y=some (id,st,i,n)){z:List Value}(s:(zP P e).zero=some z)
  (Y:(zP P e).ok=true) (Q:z.length=(zP P e).sz) (b:vN h id i e (zP P e).sz (List.replicate n (z.map .v))=some h'):
  ∃w' g',(Builtin.clear_ #[t] ty #[u]).run P w= .ok (.tuple #[]) w'/\Good B w g h w' g' h':=by
 obtain⟨d,it,l,V,eq⟩:=jx (jB f (by simp))
 rw[eq] at f
 cases d<;>try (cases f;done)
 injection f with f
 subst f
 rename_i e
 obtain⟨O,W,xs,A,k,p1,p2,H,J⟩:=Yl E I hu
 unfold vN at b
 rw[p1] at b
 simp only at b
 split at b
 ·rename_i U
  obtain⟨N,Z,L⟩:=U
  injection b with b
  subst b
  subst N
  by_cases K:n=0
  ·subst K
   have:kN xs i (List.replicate 0 (z.map AV.v))=xs:=by simp[kN]
   rw[this,qS p1]
   refine⟨w,g,?_,Good.refl E hB⟩
   subst H
   cases A<;>simp[Builtin.clear_,run_underlying l]
  ·obtain⟨ad,m,cp,R,S⟩:=J (by omega)
   obtain⟨d',X,T,C,o⟩:=jx Y
   cases c:X.zero with
   | none=>rw[o] at s;simp[c] at s
   | some x=>
     have F:x.cells.toList=z:=by rw[o] at s;simpa [c] using s
     have a:∀y∈List.replicate n (z.map AV.v),y.length=W:=λy hy=>by rw[List.eq_of_mem_replicate hy];simp[Q,Z]
     have G:(List.replicate n (z.map AV.v)).flatten=(List.replicate n z).flatten.map AV.v:=by
      clear a L p2 J H I
      induction n with
      | zero=>simp
      | succ m ih=>simp[List.replicate_succ]
     have q:∀v∈(List.replicate n z).flatten,v.oneCell'=true:=λv M=>by
      obtain⟨r,D,p⟩:=List.mem_flatten.1 M
      rw[List.eq_of_mem_replicate D] at p
      have:=qa.1 L (z.map AV.v) (by rw[List.mem_replicate];exact⟨K,rfl⟩)
      simp only[zq] at this
      have:=qa.1 this.2 (.v v) (zt.2 ⟨v,p,rfl⟩)
      exact this
     obtain⟨w',g',s1,s2⟩:=xBa (P:=P) (n:=n) E hB p1 (i:=i) (ys:=List.replicate n (z.map AV.v)) (by simpa using p2) a R (vs:=(List.replicate n z).flatten) (by rw[G];exact JI _) q
     refine⟨w',g',?_,s2⟩
     subst H
     subst S
     have j:(Builtin.zeroCells x.cells n).toList=(List.replicate n z).flatten:=by
      have:=XW x.cells n
      rw[F] at this
      exact this
     obtain⟨n,rfl⟩:∃m,n=m+1:=⟨n - 1,by omega⟩
     simp[Builtin.clear_,run_underlying l,Yj C c,j,s1]
 ·cases b
theorem qpa{sz n:Nat}{A:Option Addr}{m k:Nat}{vs:List Value}(b:vs.length=n*sz)(c:A=none->n=0)(d:∀a,A=some a->∀j u,vs[j]? =some u->w.cell? (a.add j)=some u):(Builtin.firstCells sz n (.slice A m k)).run P w= .ok vs.toArray w:=by
 cases A with
 | none=>
   have:vs=[]:=zF (by rw[b,c rfl,Nat.zero_mul])
   subst this
   simp[Builtin.firstCells]
 | some a=>
   have:=run_loadCells_list (P:=P) w a vs (d a rfl)
   rw[b] at this
   simpa [Builtin.firstCells] using this
theorem Jga(K:HOk B w g h)(hB:B<=w.heap.size){t ty e:TypeId}{y s:AV}{u v:Value}(hu:AR (ctx w g h) y u)(hv:AR (ctx w g h) s v)(x:(zP P t).kind= .slice e){id st i n:Nat}(hp:vl h y=some (id,st,i,n)){ys:List (List AV)}(C:qc h s=some ys)
  (ho:(zP P e).ok=true) (h0:0<(zP P e).sz) (p:vN h id i e (zP P e).sz (ys.take n)=some h'):
  ∃w' g',(Builtin.copy_ #[t,t] ty #[u,v]).run P w= .ok (.int .i64 ((ys.take n).length:Nat)) w'/\Good B w g h w' g' h':=by
 obtain⟨d,it,H,ρ,eq⟩:=jx (jB x (by simp))
 rw[eq] at x
 cases d<;>try (cases x;done)
 injection x with x
 subst x
 rename_i e
 obtain⟨T,e',xs,A,k,p1,p2,p3,p4⟩:=Yl K hp hu
 obtain⟨A2,k2,Z,r2,r3,r4⟩:=wA K _ hv C
 unfold vN at p
 rw[p1] at p
 simp only at p
 split at p
 ·rename_i hc
  obtain⟨c1,c2,c3⟩:=hc
  injection p with p
  subst p
  subst c1
  obtain⟨d',M,ξ,I,R⟩:=jx ho
  have X:(zP P T).sz=M.size:=by rw[R]
  have c:(ys.take n).length=min ys.length n:=by rw[zH,Nat.min_comm]
  have l:∀r∈ys.take n,r.length=e'/\r.all AV.one=true:=λr C=>by
   have:=qa.1 c3 r C
   simp only[zq,beq_iff_eq] at this
   exact⟨by rw[c2];exact this.1,this.2⟩
  by_cases D:(ys.take n).length=0
  ·have U:ys.take n=[]:=zF D
   have:kN xs i (ys.take n)=xs:=by rw[U];simp[kN]
   rw[this,qS p1]
   refine⟨w,g,?_,Good.refl K hB⟩
   subst p3
   subst Z
   have O:Nat.min ys.length n=0:=by rw[<-D,c]
   have L:=qpa (P:=P) (w:=w) (sz:=M.size) (n:=0) (A:=A2) (m:=ys.length) (k:=k2) (vs:=[]) (by simp) (λ_=>rfl) (λ_ _ _ _ h=>by simp at h)
   rw[D]
   cases A<;>simp[Builtin.copy_,run_underlying H,Builtin.lenOf,sizeOf,typeInfo,I,O,L,goInt,storeCells]
  ·have Q:0<n:=by
    rcases Nat.eq_zero_or_pos n with h|h
    ·subst h;simp at D
    ·exact h
   obtain⟨ad,m,cp,q1,q2⟩:=p4 Q
   subst q2
   have o:ys≠[]:=λh=>by subst h;simp at D
   cases J:eOf h s with
   | none=>exact absurd (r4 J) o
   | some N=>
     have f:=r3 N J
     obtain⟨r0,F⟩:∃r,r∈ys.take n:=List.exists_mem_of_ne_nil _ (λh=>D (by rw[h];rfl))
     have W:N=e':=by rw[<-f.len r0 (List.mem_of_mem_take F)];exact(l r0 F).1
     subst W
     obtain⟨b,S⟩:∃b,A2=some b:=by
      cases z:ys with
      | nil=>exact absurd z o
      | cons q qs=>
        have Y:=f.len q (by rw[z];simp)
        obtain⟨b,u',z1,_⟩:=f.cell 0 0 q (nth q 0) (by rw[z];rfl) (Z0 (by omega))
        exact⟨b,z1⟩
     subst S
     have G:RowsAt w (ctx w g h) N (ys.take n) (some b):=⟨λr C=>(l r C).1,λj k r a E x=>by
      rw[qZ] at E
      split at E
      ·exact f.cell j k r a E x
      ·cases E⟩
     obtain⟨news,n1,n2,n3,n4⟩:=qoa G λr C=>(l r C).2
     obtain⟨w',g',s1,s2⟩:=xBa (P:=P) (n:=n) K hB p1 (i:=i) (ys:=ys.take n) (by rw[c];omega) (λy hy=>(l y hy).1) q1 n4 n3
     refine⟨w',g',?_,s2⟩
     subst p3
     subst Z
     have O:Nat.min ys.length n=(ys.take n).length:=c.symm
     have V:N=M.size:=by rw[c2,X]
     have L:=qpa (P:=P) (w:=w) (sz:=M.size) (n:=(ys.take n).length) (A:=some b) (m:=ys.length) (k:=k2) (vs:=news) (by rw[n1,V]) (λh=>by cases h) (λad h j u E=>by injection h with h;subst h;exact n2 j u E)
     obtain⟨q,Y⟩:∃q,(ys.take n).length=q:=⟨_,rfl⟩
     rw[Y] at O L⊢
     simp[Builtin.copy_,run_underlying H,Builtin.lenOf,sizeOf,typeInfo,I,O,L,s1,goInt]
 ·cases p
theorem Zpa(G:HOk B w g h)(hB:B<=w.heap.size)(E:wT (ctx w g h) T a){t e:TypeId}{X:Operand}{lo hi:Option Operand}{xs:List (List AV)}{l m:Int}(o:(zP P t).kind= .slice e)(L:qc h (ev T X)=some xs)(f:Z2 T 0 lo=some l)(i:Z2 T xs.length hi=some m)
  (U:(zP P e).ok=true) (h0:0<=l) (h1:l<=m) (I:m<=xs.length) (D:l=m∨(0<(zP P e).sz/\eOf h (ev T X)=some (zP P e).sz)):DidV P (Instr.sliceAt t (a.eval X) (lo.map a.eval) (hi.map a.eval) none) B w g h (.vw (ev T X) (zP P e).sz l.toNat (m.toNat - l.toNat)) h:=by
 obtain⟨d,it,s,R,eq⟩:=jx (jB o (by simp))
 rw[eq] at o
 cases d<;>try (cases o;done)
 injection o with o
 subst o
 rename_i e
 obtain⟨d',S,Q,u,C⟩:=jx U
 have J:=jV E X
 obtain⟨A,k,H,r2,V,r4⟩:=wA G _ J L
 have b:(match lo.map a.eval with|some v=>Instr.sliceBound v m.toNat .sliceB|none=>pure 0:Sem Nat).run P w= .ok l.toNat w:=by
  cases lo with
  | none=>injection f with f;subst f;rfl
  | some x=>
    simp only[Z2] at f
    split at f
    ·rename_i kk n z
     injection f with f
     subst f
     have:=Zi E z
     simp only[Option.map_some,this,Instr.sliceBound,asIntOf,Sem.run_bind,Sem.run_pure,Result.andThen_ok,if_pos (show 0<=n/\n<=(m.toNat:Int) by omega)]
    ·cases f
 have c:(match hi.map a.eval with|some v=>Instr.sliceBound v k .sliceAcap|none=>pure xs.length:Sem Nat).run P w= .ok m.toNat w:=by
  cases hi with
  | none=>injection i with i;subst i;simp
  | some x=>
    simp only[Z2] at i
    split at i
    ·rename_i kk n z
     injection i with i
     subst i
     have:=Zi E z
     simp only[Option.map_some,this,Instr.sliceBound,asIntOf,Sem.run_bind,Sem.run_pure,Result.andThen_ok,if_pos (show 0<=n/\n<=(k:Int) by omega)]
    ·cases i
 refine jL G hB (v:= .slice (if k=l.toNat then A else A.map (·.add (l.toNat*S.size))) (m.toNat - l.toNat) (k - l.toNat)) ?_ ?_
 ·have W:(Instr.sliceBounds true xs.length k (lo.map a.eval) (hi.map a.eval) none).run P w= .ok (l.toNat,m.toNat,k) w:=by
   unfold Instr.sliceBounds
   cases lo with
   | none=>cases hi with
     | none=>
       injection b with b
       injection c with c
       simp[b,c]
     | some x=>
       injection b with b
       simp only[Option.map_some] at c
       simp[b,c]
   | some y=>cases hi with
     | none=>
       injection c with c
       simp only[Option.map_some] at b
       simp[b,c]
     | some x=>
       simp only[Option.map_some] at b c
       simp[b,c]
  simp only[Instr.sliceAt,Sem.run_bind,run_underlying s,Result.andThen_ok,Instr.slice,H]
  simp only[Sem.run_bind,W,Result.andThen_ok,sizeOf,typeInfo,run_program]
  simp[u]
 ·refine⟨A,xs.length,k,_,_,by rw[<-H];exact J,by omega,by omega,rfl,λhn=>?_,λh0=>?_⟩
  rotate_left
  ·rw[h0]
   refine⟨?_,rfl⟩
   split
   ·exact .inl rfl
   ·exact .inr (by simp)
  have r:k≠l.toNat:=by omega
  rw[if_neg r]
  cases A with
  | some K=>exact⟨K,rfl,by rw[C];rfl⟩
  | none=>
    exfalso
    rcases D with Y|⟨M,F⟩
    ·omega
    ·have p:=V _ F
     cases j:xs with
     | nil=>rw[j] at I;simp at I;omega
     | cons q qs=>
       have Z:=p.len q (by rw[j];simp)
       obtain⟨N,u',O,_⟩:=p.cell 0 0 q (nth q 0) (by rw[j];rfl) (Z0 (by omega))
       cases O
end
section
variable {B:Nat} {w:World} {g:Gh} {h h':List Ob} {P:Program} {x:AV} {T:Nat->AV} {a:Act} {kk:IntKind} {n:Int} {v:AV}
theorem xw:∀ {es:List (AV × AV)},vE kk es=true↔∀p∈es,p.1= .v (.int kk (vm p))
 | []=>by simp[vE]
 | p::r=>by
   have c:=xw (es:=r)
   constructor
   ·intro h q a
    unfold vE at h
    split at h
    ·rename_i heq;cases heq
    ·rename_i k m u d heq
     injection heq with b h2
     subst b h2
     simp only[zq,beq_iff_eq] at h
     rcases zy.1 a with rfl|a
     ·simp[vm,h.1]
     ·exact c.1 h.2 q a
    ·cases h
   ·intro h
    obtain⟨p1,p2⟩:=p
    have h0:p1=_:=h (p1,p2) (by simp)
    have b:=c.2 λq a=>h q (by simp[a])
    rw[h0]
    simp[vE,b]
theorem Wo{a b:List (AV × AV)}(d:a.Perm b)(h:vE kk b=true):vE kk a=true:=by
 rw[xw] at h⊢
 exact λp c=>h p (d.mem_iff.1 c)
theorem Ka:∀ {es:List (AV × AV)},kR n es=true↔∃p∈es,vm p=n
 | []=>by simp[kR]
 | p::r=>by simp[kR,Ka (es:=r)]
theorem yr:∀(es:List (AV × AV)),xC kk n v es=es.map λp=>if vm p=n then(.v (.int kk n),v) else p
 | []=>rfl
 | p::r=>by simp[xC,yr r]
theorem Z3:∀(es:List (AV × AV)),(xh kk n v es).Perm ((.v (.int kk n),v)::es)
 | []=> .refl _
 | p::r=>by
   unfold xh
   split
   ·exact .refl _
   ·exact((Z3 r).cons p).trans (.swap _ _ _)
theorem Wp{n n':Int}{v v':AV}(d:n≠n'):∀(es:List (AV × AV)),xh kk n v (xh kk n' v' es)=xh kk n' v' (xh kk n v es)
 | []=>by
   simp only[xh,vm]
   by_cases h:n<n'
   ·simp[h,show ¬ n'<n by omega]
   ·simp[h,show n'<n by omega]
 | p::r=>by
   have e:=Wp (v:=v) (v':=v') d r
   have k1:vm (.v (.int kk n),v)=n:=rfl
   have k2:vm (.v (.int kk n'),v')=n':=rfl
   by_cases b:n<vm p
   ·by_cases a:n'<vm p
    ·by_cases c:n<n'
     ·simp[xh,b,a,c,k1,k2,show ¬ n'<n by omega]
     ·simp[xh,b,a,c,k1,k2,show n'<n by omega]
    ·have c:n<n':=by omega
     simp[xh,b,a,k1,show ¬ n'<n by omega]
   ·by_cases a:n'<vm p
    ·have c:n'<n:=by omega
     simp[xh,b,a,k2,show ¬ n<n' by omega]
    ·simp[xh,b,a,e]
theorem vS{c:Ctx}:∀ {l:List (AV × AV)} {es:List MapEntry},MapRel c l es->l.length=es.length
 | [],es,h=>by have h:es=[]:=h;simp[h]
 | p::r,es,⟨e,q,a,_,_,b⟩=>by subst a;simp[vS b]
theorem vn{c:Ctx}:∀ {l:List (AV × AV)} {es:List MapEntry},MapRel c l es->∀(i:Nat) (p:AV × AV),l[i]? =some p->∃e,es[i]? =some e/\AR c p.1 e.key/\AR c p.2 e.val
 | q::r,es,⟨e,s,b,d,g,f⟩,0,p,a=>by injection a with a;subst a b;exact⟨e,rfl,d,g⟩
 | q::r,es,⟨e,s,b,d,g,f⟩,i+1,p,a=>by
   subst b
   exact vn f i p (by simpa using a)
theorem VC{c:Ctx}:∀ {l:List (AV × AV)} {es:List MapEntry},l.length=es.length->(∀(i:Nat) (p:AV × AV) (e:MapEntry),l[i]? =some p->es[i]? =some e->AR c p.1 e.key/\AR c p.2 e.val)->MapRel c l es
 | [],[],_,_=>rfl
 | [],_::_,h,_=>by cases h
 | _::_,[],h,_=>by cases h
 | p::l,e::es,d,h=>⟨e,es,rfl,(h 0 p e rfl rfl).1,(h 0 p e rfl rfl).2,VC (by simpa using d) λi p e a b=>h (i+1) p e (by simpa using a) (by simpa using b)⟩
theorem Kb{kk':IntKind}:∀(es:List MapEntry) (i:Nat),(∀e∈es,∃m,e.key= .int kk m)->(∀e∈es,e.key≠ .int kk n)/\Instr.findNow (.int kk') (.int kk n) es i=some none∨∃j e,es[j]? =some e/\e.key= .int kk n/\Instr.findNow (.int kk') (.int kk n) es i=some (some (i+j,e.val))
 | [],i,_=> .inl ⟨by simp,rfl⟩
 | e::es,i,l=>by
   obtain⟨m,c⟩:=l e (by simp)
   by_cases b:n=m
   ·subst b
    exact .inr ⟨0,e,rfl,c,by simp[Instr.findNow,c,Instr.sameNow]⟩
   ·have k:Instr.sameNow (.int kk') (.int kk n) e.key=some false:=by simp[c,Instr.sameNow,b]
    rcases Kb (kk':=kk') es (i+1) (λe o=>l e (by simp[o])) with⟨f,d⟩|⟨j,g,f,d,p⟩
    ·refine .inl ⟨λg a=>?_,by simp[Instr.findNow,k,d]⟩
     rcases zy.1 a with rfl|a
     ·rw[c];intro h;injection h with _ h;exact b h.symm
     ·exact f g a
    ·exact .inr ⟨j+1,g,by simpa using f,d,by simp[Instr.findNow,k,p];omega⟩
theorem qqa{es:List MapEntry}(c:(es.map (·.key)).Nodup){i j:Nat}{e b:MapEntry}(hi:es[i]? =some e)(f:es[j]? =some b)(g:e.key=b.key):i=j:=by
 have a:(es.map (·.key))[i]? =some e.key:=by simp[hi]
 have d:(es.map (·.key))[j]? =some e.key:=by simp[f,g]
 have h:=(zd.1 a).1
 exact(List.getElem?_inj h c).1 (a.trans d.symm)
theorem xCa{c:Ctx}{l:List (AV × AV)}{es:List MapEntry}(d:MapRel c l es)(h:vE kk l=true):∀e∈es,∃m,e.key= .int kk m:=λe g=>by
 obtain⟨i,hi⟩:=List.mem_iff_getElem?.1 g
 have f:i<l.length:=by rw[vS d];exact(zd.1 hi).1
 obtain⟨j,a,b,_⟩:=vn d i _ (zi f)
 rw[hi] at a
 injection a with a
 subst a
 have:=xw.1 h l[i] (zx f)
 rw[this] at b
 exact⟨_,b⟩
theorem Ym{z:AV}:∀ {es:List (AV × AV)},(∀p∈es,vm p≠n)->Jx n z es=(z,false)
 | [],_=>rfl
 | p::r,h=>by
   have c:=Ym (z:=z) (es:=r) λq b=>h q (by simp[b])
   have a:=h p (by simp)
   simp[Jx,c,a]
theorem Yn{z:AV}:∀ {es:List (AV × AV)},(∃p∈es,vm p=n)->∃p∈es,vm p=n/\Jx n z es=(p.2,true)
 | [],h=>by simp at h
 | p::r,h=>by
   by_cases a:vm p=n
   ·exact⟨p,by simp,a,by simp[Jx,a]⟩
   ·obtain⟨q,b,c⟩:=h
    rcases zy.1 b with rfl|b
    ·exact absurd c a
    ·obtain⟨e,g,d,f⟩:=Yn (z:=z) (es:=r) ⟨q,b,c⟩
     exact⟨e,by simp[g],d,by simp[Jx,a,f]⟩
theorem Yo{c:Ctx}{L K mt:TypeId}{es:Array MapEntry}{k:Nat}{l l':List (AV × AV)}{b:Nat}{kk':IntKind}{z:Value}{y:AV}(W:P.underlying mt=some (.map L K))(A:P.underlying L=some (.int kk'))(S:w.heap[b]? =some (.map es k))(G:l'.Perm l)(C:MapRel c l' es.toList)(T:(es.toList.map (·.key)).Nodup)
  (m:vE kk l=true) (N:(zeroValue K).run P w= .ok z w) (B:AR c y z) (ok:Bool):
  ∃u,(Instr.lookup mt (.map (some b)) (.int kk n) ok).run P w= .ok u w/\AR c (if ok then .tup [(Jx n y l).1,.v (.bool (Jx n y l).2)] else(Jx n y l).1) u:=by
 have E:=Wo G m
 have Q:∀ {β:Type} (f:Obj->Sem β),(Sem.getObj b f).run P w=(f (.map es k)).run P w:=λf=>by simp[Sem.run,S]
 have s:∀(r:Option (Nat × Value)) (q:Value) (t:Bool),Instr.findNow (.int kk') (.int kk n) es.toList 0=some r->(match r with|some (_,v)=>(pure (v,true):Sem (Value × Bool))|none=>do pure (<-zeroValue K,false)).run P w= .ok (q,t) w->
   (Instr.lookup mt (.map (some b)) (.int kk n) ok).run P w= .ok (if ok then .tuple #[q,.bool t] else q) w:=λr q t U o=>by
  have J:∀d,(Instr.checkKey es.isEmpty (d+1) L (.int kk n)).run P w= .ok () w:=λd=>by simp[Instr.checkKey,run_underlying A]
  have Y:(getObj b).run P w= .ok (.map es k) w:=by simp[getObj,Sem.run,S]
  simp only[Instr.lookup,Sem.run_bind,run_underlying W,Result.andThen_ok,Y,Sem.run_pure,J,Instr.findKey,run_underlying A,U]
  cases r with
  | some p=>obtain⟨i,v⟩:=p;simp only[Sem.run_pure] at o ⊢;injection o with o _;injection o with h x;subst h x;cases ok<;>simp
  | none=>simp only[Sem.run_bind,N,Result.andThen_ok,Sem.run_pure] at o ⊢;injection o with o _;injection o with h x;subst h x;cases ok<;>simp
 rcases Kb (kk':=kk') es.toList 0 (xCa C E) (n:=n) with⟨h,x⟩|⟨j,e,h,x,X⟩
 ·have I:∀p∈l,vm p≠n:=λp D e=>by
   obtain⟨i,hi⟩:=List.mem_iff_getElem?.1 (G.mem_iff.2 D)
   obtain⟨H,g,a,_⟩:=vn C i p hi
   have:=xw.1 m p D
   rw[this,e] at a
   exact h H (qr g) a
  refine⟨_,s none z false x (by simp[N]),?_⟩
  rw[Ym I]
  cases ok
  ·exact B
  ·exact⟨_,rfl,_,_,rfl,B,_,_,rfl,rfl,rfl⟩
 ·have F:j<l'.length:=by rw[vS C];exact(zd.1 h).1
  have hex:∃p∈l,vm p=n:=by
   obtain⟨H,g,a,_⟩:=vn C j _ (zi F)
   rw[h] at g
   injection g with g
   subst g
   have R:=G.mem_iff.1 (zx F)
   have:=xw.1 m _ R
   rw[this] at a
   have a:e.key= .int kk _:=a
   rw[x] at a
   injection a with _ a
   exact⟨_,R,a.symm⟩
  obtain⟨p,p1,p2,V⟩:=Yn (z:=y) hex
  obtain⟨i,hi⟩:=List.mem_iff_getElem?.1 (G.mem_iff.2 p1)
  obtain⟨H,g,a,O⟩:=vn C i p hi
  have:=xw.1 m p p1
  rw[this,p2] at a
  have a:H.key= .int kk n:=a
  have M:=qqa T g h (a.trans x.symm)
  subst M
  rw[h] at g
  injection g with g
  subst g
  refine⟨_,s (some (0+i,e.val)) e.val true X (by simp),?_⟩
  rw[V]
  cases ok
  ·exact O
  ·exact⟨_,rfl,_,_,rfl,O,_,_,rfl,rfl,rfl⟩
theorem vza(U:HOk B w g h)(hB:B<=w.heap.size){Z et mt:TypeId}{id:Nat}{l l2:List (AV × AV)}{kk':IntKind}{u:Value}(hu:P.underlying mt=some (.map Z et))(F:P.underlying Z=some (.int kk'))(X:h[id]? =some (.mapo l))(hv:AR (ctx w g h) v u)(x:JD kk n v l=some l2):
  ∃w',(Instr.mapUpdate mt (.map (some (g.β id))) (.int kk n) u).run P w= .ok () w'/\Good B w g h w' g (h.set id (.mapo l2)):=by
 obtain⟨h1,es,k,l',O,s,y,R⟩:=U.ok id _ X
 have O:w.heap[g.β id]? =some (.map es k):=O
 unfold JD at x
 split at x
 case isFalse=>cases x
 rename_i G
 injection x with x
 have D:=Wo s G
 have I:∀d,(Instr.checkKey false (d+1) Z (.int kk n)).run P w= .ok () w:=λd=>by simp[Instr.checkKey,run_underlying F]
 have hg:(getObj (g.β id)).run P w= .ok (.map es k) w:=by simp[getObj,Sem.run,O]
 have A:∀o,(setObj (g.β id) o).run P w= .ok () { w with heap:=w.heap.setIfInBounds (g.β id) o }:=λo=>by simp[setObj,Sem.run,O]
 rcases Kb (kk':=kk') es.toList 0 (xCa y D) (n:=n) with⟨C,E⟩|⟨j,e,C,E,f3⟩
 ·have W:kR n l=false:=by
   rw[jy]
   intro hc
   obtain⟨p,J,e⟩:=Ka.1 hc
   obtain⟨i,hi⟩:=List.mem_iff_getElem?.1 (s.mem_iff.2 J)
   obtain⟨Q,r,f,_⟩:=vn y i p hi
   have:=xw.1 G p J
   rw[this,e] at f
   exact C Q (qr r) f
  rw[W] at x
  simp only[Bool.false_eq_true,if_false] at x
  subst x
  refine⟨_,?_,xqa U hB X (es':=es.push { key:= .int kk n,val:=u,born:=k }) (k':=k+1) (l2:=l'++[(.v (.int kk n),v)]) ?_ ?_ ?_⟩
  ·simp only[Instr.mapUpdate,Sem.run_bind,run_underlying hu,Result.andThen_ok,hg,I,Instr.findKey,run_underlying F,E,Sem.run_pure,A]
  ·refine(List.perm_append_comm).trans (List.Perm.trans ?_ (Z3 l).symm)
   exact s.cons _
  ·rw[Array.toList_push]
   refine VC (by simp[vS y]) λi p e s m=>?_
   by_cases hi:i<l'.length
   ·rw[zN hi] at s
    rw[zN (by rw[<-vS y];exact hi)] at m
    obtain⟨Q,r,f,T⟩:=vn y i p s
    rw[m] at r;injection r with r;subst r
    exact⟨f,T⟩
   ·have hl:=vS y
    rw[zX (by omega)] at s m
    rw[<-hl] at m
    have h0:i - l'.length=0:=by
     have:=(zd.1 s).1
     simp at this;omega
    rw[h0] at s m
    injection s with s;injection m with m
    subst s m
    exact⟨rfl,hv⟩
  ·rw[Array.toList_push,zw,List.nodup_append]
   refine⟨R,by simp,λa ha b hb=>?_⟩
   simp at hb
   obtain⟨e,m,rfl⟩:=zt.1 ha
   rw[hb]
   exact C e m
 ·have M:j<l'.length:=by rw[vS y];exact(zd.1 C).1
  have L:kR n l=true:=by
   rw[Ka]
   obtain⟨Q,r,f,_⟩:=vn y j _ (zi M)
   rw[C] at r
   injection r with r
   subst r
   have hm:=s.mem_iff.1 (zx M)
   have:=xw.1 G _ hm
   rw[this] at f
   have f:e.key= .int kk _:=f
   rw[E] at f
   injection f with _ f
   exact⟨_,hm,f.symm⟩
  rw[L] at x
  simp only[if_true] at x
  subst x
  have K:es[j]? =some e:=by simpa using C
  refine⟨_,?_,xqa U hB X (es':=es.modify j λe=>{ e with key:= .int kk n,val:=u }) (k':=k) (l2:=xC kk n v l') ?_ ?_ ?_⟩
  ·have V:(Instr.keyThatStays e.key (.int kk n)).run P w= .ok (.int kk n) w:=by simp[Instr.keyThatStays,E,Instr.sameBits]
   rw[Nat.zero_add] at f3
   simp only[Instr.mapUpdate,Sem.run_bind,run_underlying hu,Result.andThen_ok,hg,I,Instr.findKey,run_underlying F,f3,Sem.run_pure,K,Option.map_some,Option.getD_some,V,A]
  ·rw[yr,yr]
   exact s.map _
  ·refine VC (by simp[yr,vS y]) λi p Q c m=>?_
   rw[yr,zz] at c
   cases z:l'[i]? with
   | none=>rw[z] at c;cases c
   | some q=>
     rw[z] at c
     injection c with c
     obtain⟨e2,r,f,T⟩:=vn y i q z
     have H:=xw.1 D q (qr z)
     rw[H] at f
     have f:e2.key= .int kk (vm q):=f
     rw[qC,Array.getElem?_modify] at m
     have Y:es[i]? =some e2:=by simpa using r
     rw[Y] at m
     by_cases N:vm q=n
     ·rw[N] at f
      have t:=qqa R r C (f.trans E.symm)
      subst t
      have c:(if vm q=n then((.v (.int kk n),v):AV × AV) else q)=p:=c
      rw[if_pos N] at c
      subst c
      simp only[if_true,Option.map_some] at m
      injection m with m
      subst m
      exact⟨rfl,hv⟩
     ·have t:j≠i:=λS=>by
       subst S
       rw[C] at r
       injection r with r
       subst r
       rw[E] at f
       injection f with _ f
       exact N f.symm
      have c:(if vm q=n then((.v (.int kk n),v):AV × AV) else q)=p:=c
      rw[if_neg N] at c
      subst c
      rw[if_neg t] at m
      injection m with m
      subst m
      exact⟨by rw[H];exact f,T⟩
  ·have:(es.modify j λe=>{ e with key:= .int kk n,val:=u }).toList.map (·.key)=es.toList.map (·.key):=by
    apply qX
    intro i
    rw[zz,zz,qC,Array.getElem?_modify,qC]
    by_cases t:j=i
    ·subst t;rw[K];simp[E]
    ·rw[if_neg t]
   rw[this]
   exact R
theorem Jha{c:Ctx}{t:TypeId}{z:AV}(b:yfa (zP P t)=some z):∃u,(zeroValue t).run P w= .ok u w/\AR c z u:=by
 unfold yfa at b
 split at b
 ·rename_i g
  cases a:(zP P t).zero with
  | none=>rw[a] at b;cases b
  | some j=>
    rw[a] at b
    simp only[Option.bind_some] at b
    obtain⟨d,i,k,hi,e⟩:=jx (jua a)
    rw[e] at a g
    cases f:i.zero with
    | none=>rw[f] at a;cases a
    | some v=>
      rw[f] at a g
      injection a with a
      have h:v.cells= #[v]:=by
       have g:v.oneCell'=true:=g
       cases v<;>first|rfl|cases g
      have a:v.cells.toList=j:=a
      rw[h] at a
      subst a
      injection b with b
      subst b
      exact⟨v,Yj hi f,rfl⟩
 ·cases b
theorem xDa{c:Ctx}{t:TypeId}(p:(zP P t).ok=true){cs:List AV}{vs:Array Value}(l:ARs c cs vs.toList){k:Nat}{x:AV}(a:part cs k (zP P t).agg (zP P t).sz=some x):∃u,(_root_.Go.part t vs k).run P w= .ok u w/\AR c x u:=by
 obtain⟨d,i,n,hi,e⟩:=jx p
 rw[e] at a
 have f:(isAgg t).run P w= .ok (yda d) w:=by
  simp only[isAgg,Sem.run_bind,run_underlying n,Result.andThen_ok]
  cases d<;>rfl
 simp only[part] at a
 split at a
 ·rename_i j
  cases b:cut cs k i.size with
  | none=>rw[b] at a;cases a
  | some rs=>
    rw[b] at a
    injection a with a
    subst a
    obtain⟨r,m,v⟩:=jpa l k _ b
    refine⟨.agg (vs.extract k (k+i.size)),?_,_,rfl,?_⟩
    ·have h:k+i.size<=vs.size:=by simpa using m
     simp[_root_.Go.part,f,j,sizeOf,typeInfo,hi,h]
    ·simpa [Array.toList_extract,List.extract_eq_take_drop] using r
 ·rename_i j
  split at a
  ·rename_i s
   injection a with a
   subst a
   obtain⟨u,q,o⟩:=yO l k s
   refine⟨u,?_,o⟩
   have g:vs[k]? =some u:=by simpa using q
   simp[_root_.Go.part,f,j,g]
  ·cases a
end
section
variable {B:Nat} {w:World} {g:Gh} {h h':List Ob} {P:Program} {x:AV} {T:Nat->AV} {a:Act}
theorem qra:∀ {rows:List (List AV)} {l:List UInt8},Zka rows=some l->∃ns:List Int,rows=ns.map (λn=>[AV.v (.int .u8 n)])/\l=ns.map λn=>UInt8.ofNat n.toNat
 | [],l,h=>by
   injection h with h
   exact⟨[],rfl,h.symm⟩
 | r::rows,l,h=>by
   unfold Zka at h
   split at h
   ·rename_i e;cases e
   ·rename_i n d e
    injection e with e1 e2
    subst e2
    cases a:Zka rows with
    | none=>rw[a] at h;cases h
    | some l'=>
      rw[a] at h
      injection h with h
      obtain⟨ns,c,b⟩:=qra a
      exact⟨n::ns,by rw[e1,c];rfl,by rw[<-h,b];rfl⟩
   ·cases h
theorem Zqa(l:List Int):∀s:ByteArray,l.foldl (λr n=>r.push (UInt8.ofNat n.toNat)) s=⟨s.data++(l.map λn=>UInt8.ofNat n.toNat).toArray⟩:=by
 induction l with
 | nil=>intro s;simp
 | cons x l a=>
   intro s
   simp only[List.map_cons,List.foldl_cons]
   rw[a]
   simp[ByteArray.push]
theorem Jia(S:HOk B w g h){s d:TypeId}{rows:List (List AV)}{v:Value}{z:AV}(X:AR (ctx w g h) (.sl 1 rows) v)(V:(zP P s).ok=true)(q:(zP P d).kind= .str)(b:K1a P s rows=some z):
  ∃u,(convert s d v).run P w= .ok u w/\AR (ctx w g h) z u:=by
 obtain⟨A,k,T,h2,p,_⟩:=wA S (.sl 1 rows) X rfl
 have p:=p 1 rfl
 unfold K1a at b
 split at b
 ·rename_i e o
  split at b
  ·rename_i a
   cases J:Zka rows with
   | none=>rw[J] at b;cases b
   | some l=>
     rw[J] at b
     injection b with b
     subst b
     obtain⟨Y,i1,t,Z,x⟩:=jx V
     obtain⟨Q,i2,H,U,F⟩:=jx (jB q (by simp))
     obtain⟨R,i3,I,O,r⟩:=jx (jB a (by simp))
     rw[x] at o
     rw[F] at q
     rw[r] at a
     cases Y<;>try (cases o;done)
     cases Q<;>try (cases q;done)
     cases R<;>try (cases a;done)
     injection o with o
     injection a with a
     subst o;subst a
     obtain⟨ns,y,K⟩:=qra J
     refine⟨.string ⟨l.toArray⟩,?_,rfl⟩
     have W:∀f,A=some f->∀j u,(ns.map (Value.int .u8))[j]? =some u->w.cell? (f.add j)=some u:=λf N j u i=>by
      rw[zz] at i
      cases G:ns[j]? with
      | none=>rw[G] at i;cases i
      | some n=>
        rw[G] at i
        injection i with i
        subst i
        obtain⟨D,L,m,M,C⟩:=p.cell j 0 [.v (.int .u8 n)] (.v (.int .u8 n)) (by rw[y,zz,G];rfl) rfl
        rw[N] at m
        injection m with m
        subst m
        rw[Nat.mul_one,Nat.add_zero] at M
        have C:L= .int .u8 n:=C
        rw[M,C]
     have E:rows.length=ns.length:=by rw[y,zb]
     rw[T,run_convert_bytes_string w s d _ A rows.length k t I H]
     cases A with
     | none=>
       have h0:ns=[]:=by
        cases ns with
        | nil=>rfl
        | cons n ns=>
          obtain⟨D,L,m,_⟩:=p.cell 0 0 [.v (.int .u8 n)] (.v (.int .u8 n)) (by rw[y];rfl) rfl
          cases m
       rw[h0] at E K
       rw[E,K]
       rfl
     | some f=>
       have c:=run_loadCells_list (P:=P) w f (ns.map (Value.int .u8)) (W f rfl)
       rw[zb] at c
       rw[E,run_bytesToString w f ns.length k ns c,Zqa,K]
       simp
  ·cases b
 ·cases b
theorem yja{c:Ctx}:∀ {aZ:List AV} {y:AV} {vs:List Value} {v:Value},ARs c aZ vs->AR c y v->∀ {r:AV},xsa y aZ=some r->∃u,(vs.foldlM Builtin.max2 v).run P w= .ok u w/\AR c r u
 | [],y,vs,v,e,a,r,h=>by
   have e:vs=[]:=e
   subst e
   have h:some y=some r:=by rw[<-h];unfold xsa;rfl
   injection h with h;subst h
   exact⟨v,rfl,a⟩
 | z::aZ,y,vs,v,⟨u,q,g,b,f⟩,a,r,h=>by
   subst g
   unfold xsa at h
   split at h
   ·rename_i heq;cases heq
   ·rename_i k p k' n j heq
    injection heq with h4 h5
    subst h4 h5
    have a:v= .int k p:=a
    have b:u= .int k' n:=b
    subst a b
    obtain⟨u,i,d⟩:=yja (y:= .v (.int k (if n>p then n else p))) f rfl h
    exact⟨u,by simpa [List.foldlM_cons,Builtin.max2] using i,d⟩
   ·cases h
theorem yka{c:Ctx}:∀ {aZ:List AV} {y:AV} {vs:List Value} {v:Value},ARs c aZ vs->AR c y v->∀ {r:AV},xta y aZ=some r->∃u,(vs.foldlM Builtin.min2 v).run P w= .ok u w/\AR c r u
 | [],y,vs,v,e,a,r,h=>by
   have e:vs=[]:=e
   subst e
   have h:some y=some r:=by rw[<-h];unfold xta;rfl
   injection h with h;subst h
   exact⟨v,rfl,a⟩
 | z::aZ,y,vs,v,⟨u,q,g,b,f⟩,a,r,h=>by
   subst g
   unfold xta at h
   split at h
   ·rename_i heq;cases heq
   ·rename_i k p k' n j heq
    injection heq with h4 h5
    subst h4 h5
    have a:v= .int k p:=a
    have b:u= .int k' n:=b
    subst a b
    obtain⟨u,i,d⟩:=yka (y:= .v (.int k (if n<p then n else p))) f rfl h
    exact⟨u,by simpa [List.foldlM_cons,Builtin.min2] using i,d⟩
   ·cases h
theorem Jja(F:HOk B w g h)(hB:B<=w.heap.size)(o:wT (ctx w g h) T a){c:Call}{ty:TypeId}(f:Qr P T h c=some (x,h')):
  Did P (do let d<-resolve a.eval c ty;invoke d.target d.args) B w g h x h':=by
 obtain⟨callee,args,argTypes⟩:=c
 obtain⟨args⟩:=args
 obtain⟨argTypes⟩:=argTypes
 unfold Qr at f
 split at f
 ·rename_i X t l b j
  simp only at l b j
  subst l b j
  split at f
  ·rename_i e s
   cases m:qc h (ev T X) with
   | none=>rw[m] at f;cases f
   | some xs=>
     rw[m] at f
     injection f with f
     injection f with hx1 hx2
     subst hx1 hx2
     obtain⟨d,i,U,V,eq⟩:=jx (jB s (by simp))
     rw[eq] at s
     cases d<;>try (cases s;done)
     obtain⟨A,k,p,C,_,_⟩:=wA F _ (jV o X) m
     refine⟨.value (.int .i64 xs.length),_,w,g,?_,.inl rfl,Good.refl F hB,rfl⟩
     simp[resolve,invoke,builtin,Builtin.len_,p,run_underlying U,goInt]
  ·cases f
 ·rename_i S X t Q l b j
  simp only at l b j
  subst l b j
  split at f
  ·rename_i e s
   split at f
   ·rename_i I
    subst I
    obtain⟨v,w',g',O,L,W⟩:=vya (ty:=ty) F hB (jV o S) (jV o X) s f
    refine⟨.value v,v,w',g',?_,.inl rfl,L,W⟩
    simp[resolve,invoke,builtin,O]
   ·cases f
  ·cases f
 ·rename_i X t l b j
  simp only at l b j
  subst l b j
  split at f
  ·rename_i e s
   cases E:vl h (ev T X) with
   | none=>rw[E] at f;cases f
   | some q=>
     obtain⟨id,st,i,n⟩:=q
     rw[E] at f
     simp only[Option.bind_some] at f
     cases J:(zP P e).zero with
     | none=>rw[J] at f;cases f
     | some z=>
       rw[J] at f
       simp only[Option.bind_some] at f
       split at f
       ·rename_i H
        cases m:vN h id i e (zP P e).sz (List.replicate n (z.map .v)) with
        | none=>rw[m] at f;cases f
        | some L=>
          rw[m] at f
          injection f with f
          injection f with hx1 hx2
          subst hx1 hx2
          obtain⟨w',g',p,C⟩:=Zoa (P:=P) (ty:=ty) F hB (jV o X) s E J H.1 H.2 m
          refine⟨.value (.tuple #[]),.tuple #[],w',g',?_,.inl rfl,C,⟨_,rfl,rfl⟩⟩
          simp[resolve,invoke,builtin,p]
       ·cases f
  ·cases f
 ·rename_i D X t Q l b j
  simp only at l b j
  subst l b j
  split at f
  ·rename_i e s
   split at f
   ·rename_i H
    obtain⟨I,R,N⟩:=H
    subst I
    cases E:vl h (ev T D) with
    | none=>rw[E] at f;cases f
    | some q=>
      obtain⟨id,st,i,n⟩:=q
      rw[E] at f
      simp only[Option.bind_some] at f
      cases M:qc h (ev T X) with
      | none=>rw[M] at f;cases f
      | some ys=>
        rw[M] at f
        simp only[Option.bind_some] at f
        cases m:vN h id i e (zP P e).sz (ys.take n) with
        | none=>rw[m] at f;cases f
        | some L=>
          rw[m] at f
          injection f with f
          injection f with hx1 hx2
          subst hx1 hx2
          obtain⟨w',g',p,C⟩:=Jga (P:=P) (ty:=ty) F hB (jV o D) (jV o X) s E M R N m
          refine⟨.value (.int .i64 ((ys.take n).length:Nat)),_,w',g',?_,.inl rfl,C,rfl⟩
          simp only[resolve,invoke,builtin]
          simp[p]
   ·cases f
  ·cases f
 ·rename_i K X r l b
  simp only at l b
  subst l b
  cases G:xsa (ev T X) (evl T r) with
  | none=>rw[G] at f;cases f
  | some y=>
    rw[G] at f
    injection f with f
    injection f with hx1 hx2
    subst hx1 hx2
    obtain⟨u,p,C⟩:=yja (P:=P) (w:=w) (X8 o r) (jV o X) G
    refine⟨.value u,u,w,g,?_,.inl rfl,Good.refl F hB,C⟩
    simp[resolve,invoke,builtin,Builtin.max_,p]
 ·rename_i K X r l b
  simp only at l b
  subst l b
  cases G:xta (ev T X) (evl T r) with
  | none=>rw[G] at f;cases f
  | some y=>
    rw[G] at f
    injection f with f
    injection f with hx1 hx2
    subst hx1 hx2
    obtain⟨u,p,C⟩:=yka (P:=P) (w:=w) (X8 o r) (jV o X) G
    refine⟨.value u,u,w,g,?_,.inl rfl,Good.refl F hB,C⟩
    simp[resolve,invoke,builtin,Builtin.min_,p]
 ·cases f
theorem DidV.of{s:Sem Value}{t:Sem Next}(d:DidV P s B w g h x h')(e:t=(do pure (.value (<-s)))):Did P t B w g h x h':=e▸d.did
theorem jN{s:Sem Next}{v:Value}(c:HOk B w g h)(hB:B<=w.heap.size)(a:s.run P w= .ok (.value v) w)(b:AR (ctx w g h) x v):Did P s B w g h x h:=
 ⟨.value v,v,w,g,a,.inl rfl,Good.refl c hB,b⟩
theorem jwa(G:HOk B w g h)(hB:B<=w.heap.size)(H:wT (ctx w g h) T a)(o:Oper)(C:qf P T h o.op=some (x,h')):Did P (execOp a.eval o) B w g h x h':=by
 obtain⟨dst,op,type,pos,after,guard⟩:=o
 simp only at C
 have alloc:(jG P T op).map (λq=>(q.2 h.length,h++[q.1]))=some (x,h')->Did P (execOp a.eval ⟨dst,op,type,pos,after,guard⟩) B w g h x h':=λC=>by
  cases ha:jG P T op with
  | none=>rw[ha] at C;cases C
  | some q=>
    obtain⟨o,mk⟩:=q
    rw[ha] at C
    injection C with C
    injection C with hx1 hx2
    subst hx1 hx2
    obtain⟨v,w',V,m⟩:=Yk G hB H ha dst type pos after guard
    obtain⟨g',e2,e3⟩:=m.more G hB
    exact⟨.value v,v,w',g',V,.inl rfl,e2,e3⟩
 unfold qf at C
 split at C
 case h_1 y=>
  injection C with C;injection C with hx1 hx2;subst hx1 hx2
  exact jN G hB (by simp[execOp]) (jV H y)
 case h_2 y=>
  injection C with C;injection C with hx1 hx2;subst hx1 hx2
  exact jN G hB (by simp[execOp]) (jV H y)
 case h_3 c y z=>
  split at C
  ·rename_i t J
   injection C with C;injection C with hx1 hx2;subst hx1 hx2
   have e:=Zi H J
   cases t
   ·exact jN G hB (v:=a.eval z) (by simp[execOp,e,asBool]) (jV H z)
   ·exact jN G hB (v:=a.eval y) (by simp[execOp,e,asBool]) (jV H y)
  ·cases C
 case h_4 t=>exact alloc C
 case h_5 t y=>exact alloc C
 case h_6 t n ps=>exact alloc C
 case h_7 t l c=>exact alloc C
 case h_8 t r=>exact alloc C
 case h_9 t ps=>
  split at C
  ·rename_i fs D
   split at C
   ·rename_i M
    cases hz:(zP P t).zero with
    | none=>rw[hz] at C;cases C
    | some z=>
      rw[hz] at C
      simp only[Option.bind_some] at C
      cases J:yP (X6 P fs) (z.map .v) (evs T ps.toList) with
      | none=>rw[J] at C;cases C
      | some cs=>
        rw[J] at C
        injection C with C;injection C with hx1 hx2;subst hx1 hx2
        exact(Zma G hB H D M hz J).of rfl
   ·cases C
  ·rename_i m e D
   split at C
   ·rename_i M
    cases hz:(zP P t).zero with
    | none=>rw[hz] at C;cases C
    | some z=>
      rw[hz] at C
      simp only[Option.bind_some] at C
      cases J:yP (Zw (zP P e).sz) (z.map .v) (evs T ps.toList) with
      | none=>rw[J] at C;cases C
      | some cs=>
        rw[J] at C
        injection C with C;injection C with hx1 hx2;subst hx1 hx2
        exact(z6a G hB H D M hz J).of rfl
   ·cases C
  ·cases C
 case h_10 t p=>
  cases Q:Jw h (zP P t) (ev T p) with
  | none=>rw[Q] at C;cases C
  | some y=>
    rw[Q] at C
    injection C with C;injection C with hx1 hx2;subst hx1 hx2
    exact(xya G hB (jV H p) Q).of rfl
 case h_11 t p y=>
  split at C
  ·rename_i ht
   cases J:(ev T y).cells with
   | none=>rw[J] at C;cases C
   | some ns=>
     rw[J] at C
     simp only[Option.bind_some] at C
     split at C
     ·rename_i Q
      cases hs:Zx h ns (ev T p) with
      | none=>rw[hs] at C;cases C
      | some h2=>
        rw[hs] at C
        injection C with C;injection C with hx1 hx2;subst hx1 hx2
        obtain⟨w',g',V,e2⟩:=Zna G hB (jV H p) (jV H y) ht J Q hs
        exact⟨.skip,undef,w',g',by simp[execOp,V],.inr ⟨rfl,rfl⟩,e2,rfl⟩
     ·cases C
  ·cases C
 case h_12 y=>
  have E:=jV H y
  split at C
  ·rename_i id off K
   injection C with C;injection C with hx1 hx2;subst hx1 hx2
   rw[K] at E
   obtain⟨q,e⟩:=E
   exact jN G hB (v:=a.eval y) (by simp[execOp,e]) ⟨q,e⟩
  ·rename_i c e i k K
   injection C with C;injection C with hx1 hx2;subst hx1 hx2
   rw[K] at E
   obtain⟨A,m,cp,q1,q2,e⟩:=E
   exact jN G hB (v:=a.eval y) (by simp[execOp,e]) ⟨A,m,cp,q1,q2,e⟩
  ·rename_i f p q K
   injection C with C;injection C with hx1 hx2;subst hx1 hx2
   rw[K] at E
   obtain⟨us,vs,e,q⟩:=E
   exact jN G hB (v:=a.eval y) (by simp[execOp,e]) ⟨us,vs,e,q⟩
  ·cases C
 case h_13 op t y z _=>
  split at C
  ·rename_i hn
   cases hb:xua P h op t (ev T y) with
   | none=>rw[hb] at C;cases C
   | some r=>
     rw[hb] at C
     injection C with C;injection C with hx1 hx2;subst hx1 hx2
     exact(K4a G hB H hn hb).of rfl
  ·cases hb:Jea P op t (ev T y) (ev T z) with
   | none=>rw[hb] at C;cases C
   | some r=>
     rw[hb] at C
     injection C with C;injection C with hx1 hx2;subst hx1 hx2
     exact(K3a G hB H hb).of rfl
 case h_14 op _ y=>
  split at C
  ·rename_i k n K
   injection C with C;injection C with hx1 hx2;subst hx1 hx2
   have e:=Zi H K
   exact jN G hB (by simp[execOp,e,Op.unary,Op.intArith]) rfl
  ·rename_i b K
   injection C with C;injection C with hx1 hx2;subst hx1 hx2
   have e:=Zi H K
   exact jN G hB (by simp[execOp,e,Op.unary]) rfl
  ·cases C
 case h_15 s d y=>
  split at C
  ·rename_i k k' n hs hd K
   injection C with C;injection C with hx1 hx2;subst hx1 hx2
   have e:=Zi H K
   obtain⟨d1,i1,hu1,hi1,eq1⟩:=jx hs
   obtain⟨d2,Z,O,N,I⟩:=jx (jB hd (by simp))
   rw[I] at hd
   cases d2<;>try (cases hd;done)
   injection hd with hd
   subst hd
   refine jN G hB (v:= .int _ (IntKind.wrap _ n)) ?_ rfl
   simp[execOp,e,convert,run_underlying hu1,run_underlying O,Conv.intToInt]
  ·rename_i rows hs hd K
   cases κ:K1a P s rows with
   | none=>rw[κ] at C;cases C
   | some z=>
     rw[κ] at C
     injection C with C;injection C with hx1 hx2;subst hx1 hx2
     have E:=jV H y
     rw[K] at E
     obtain⟨u,hr,eu⟩:=Jia G E hs hd κ
     exact jN G hB (v:=u) (by simp[execOp,hr]) eu
  ·cases C
 case h_16 f p q=>
  injection C with C;injection C with hx1 hx2;subst hx1 hx2
  refine jN G hB (v:= .func f (p.map a.eval) (q.map a.eval)) (by simp[execOp,Instr.makeFunc]) ⟨_,_,rfl,?_,?_⟩
  ·simpa using X8 H p.toList
  ·simpa using X8 H q.toList
 case h_17 t y i=>
  have E:=jV H y
  split at C
  ·rename_i fs D
   cases M:fs[i]? with
   | none=>rw[M] at C;cases C
   | some f=>
     rw[M] at C
     simp only[Option.bind_some] at C
     split at C
     ·rename_i J
      obtain⟨d,ii,R,X,eq⟩:=jx (jB D (by simp))
      rw[eq] at D
      cases d<;>try (cases D;done)
      rename_i fields
      injection D with D
      obtain⟨d2,Z,O,N,I⟩:=jx J.1
      have δ:Z.size≠0:=by have:=J.2;rw[I] at this;simp at this;omega
      rw[<-D,zz] at M
      cases S:fields.toList[i]? with
      | none=>rw[S] at M;cases M
      | some F=>
        rw[S] at M
        injection M with M
        subst M
        have W:fields[i]? =some F:=by simpa using S
        split at C
        ·rename_i id off K
         injection C with C;injection C with hx1 hx2;subst hx1 hx2
         rw[K] at E
         obtain⟨q,e⟩:=E
         refine jN G hB (v:= .pointer (some ⟨g.β id,off+F.offset,none⟩)) ?_ ⟨q,rfl⟩
         simp[execOp,e,Instr.fieldAt,run_underlying R,W,Instr.sureAddr,fieldPlace,sizeOf,typeInfo,N,δ,Addr.add_lit,ctx]
        ·rename_i c e' j k K
         injection C with C;injection C with hx1 hx2;subst hx1 hx2
         rw[K] at E
         obtain⟨A,m,cp,q1,q2,e⟩:=E
         refine jN G hB (v:= .pointer (some (A.add (j*e'+(k+F.offset))))) ?_ ⟨A,m,cp,q1,q2,rfl⟩
         simp[execOp,e,Instr.fieldAt,run_underlying R,W,Instr.sureAddr,fieldPlace,sizeOf,typeInfo,N,δ,Addr.add_add,Nat.add_assoc]
        ·cases C
     ·cases C
  ·cases C
 case h_19 t y i=>
  have E:=jV H y
  split at C
  ·rename_i e k n D K
   split at C
   ·rename_i J
    have V:=Zi H K
    obtain⟨d,ii,R,X,eq⟩:=jx (jB D (by simp))
    rw[eq] at D
    cases d<;>try (cases D;done)
    injection D with D
    subst D
    obtain⟨d2,Z,O,N,I⟩:=jx J.1
    cases L:vua h n (ev T y) with
    | none=>rw[L] at C;cases C
    | some z=>
      rw[L] at C
      injection C with C;injection C with hx1 hx2;subst hx1 hx2
      unfold vua at L
      cases hr:qc h (ev T y) with
      | none=>rw[hr] at L;cases L
      | some xs=>
        rw[hr,J.2.2] at L
        simp only[Option.bind_some] at L
        split at L
        ·rename_i hn
         injection L with L
         subst L
         obtain⟨A,cp,q1,q2,q3,_⟩:=wA G _ E hr
         have hra:=q3 _ J.2.2
         have ο:n.toNat<xs.length:=by omega
         have hA:∃ad,A=some ad:=by
          have hrow:xs[n.toNat]? =some xs[n.toNat]:=zi ο
          have h0:=J.2.1
          have Q:=hra.len _ (zx ο)
          obtain⟨ad,u,z1,_⟩:=hra.cell _ 0 _ (nth xs[n.toNat] 0) hrow (Z0 (by omega))
          exact⟨ad,z1⟩
         obtain⟨ad,rfl⟩:=hA
         refine jN G hB (v:= .pointer (some (ad.add (n.toNat*Z.size)))) ?_ ⟨ad,xs.length,cp,by rw[<-q1];exact E,ο,by rw[I,Nat.add_zero]⟩
         simp[execOp,V,q1,Instr.indexAt,asIntOf,run_underlying R,sizeOf,typeInfo,N,hn.1,hn.2]
        ·cases L
   ·cases C
  ·rename_i m e k n D K
   split at C
   ·rename_i J
    obtain⟨c1,c2,c3⟩:=J
    have V:=Zi H K
    obtain⟨d,ii,R,X,eq⟩:=jx (jB D (by simp))
    rw[eq] at D
    cases d<;>try (cases D;done)
    injection D with hk1 hk2
    subst hk1 hk2
    obtain⟨d2,Z,O,N,I⟩:=jx c1
    split at C
    ·rename_i id off ν
     injection C with C;injection C with hx1 hx2;subst hx1 hx2
     rw[ν] at E
     obtain⟨q,e⟩:=E
     refine jN G hB (v:= .pointer (some ⟨g.β id,off+n.toNat*Z.size,none⟩)) ?_ ⟨q,by rw[I];rfl⟩
     simp[execOp,V,e,Instr.indexAt,asIntOf,run_underlying R,Instr.sureAddr,sizeOf,typeInfo,N,c2,c3,Addr.add_lit,ctx]
    ·rename_i c e' j k2 ν
     injection C with C;injection C with hx1 hx2;subst hx1 hx2
     rw[ν] at E
     obtain⟨A,m',cp,q1,q2,e⟩:=E
     refine jN G hB (v:= .pointer (some (A.add (j*e'+(k2+n.toNat*Z.size))))) ?_ ⟨A,m',cp,q1,q2,by rw[I]⟩
     simp[execOp,V,e,Instr.indexAt,asIntOf,run_underlying R,Instr.sureAddr,sizeOf,typeInfo,N,c2,c3,Addr.add_add,Nat.add_assoc]
    ·cases C
   ·cases C
  ·cases C
 case h_18 t y i=>
  have E:=jV H y
  split at C
  ·rename_i fs cs D K
   cases M:fs[i]? with
   | none=>rw[M] at C;cases C
   | some f=>
     rw[M] at C
     simp only[Option.bind_some] at C
     split at C
     ·rename_i ho
      obtain⟨d,ii,R,X,eq⟩:=jx (jB D (by simp))
      rw[eq] at D
      cases d<;>try (cases D;done)
      rename_i fields
      injection D with D
      rw[<-D,zz] at M
      cases S:fields.toList[i]? with
      | none=>rw[S] at M;cases M
      | some F=>
        rw[S] at M
        injection M with M
        subst M
        have W:fields[i]? =some F:=by simpa using S
        rw[K] at E
        obtain⟨vs,e,q⟩:=E
        cases hp:part cs F.offset (zP P F.type).agg (zP P F.type).sz with
        | none=>rw[hp] at C;cases C
        | some r=>
          rw[hp] at C
          injection C with C;injection C with hx1 hx2;subst hx1 hx2
          obtain⟨u,z1,z2⟩:=xDa (P:=P) (w:=w) ho q hp
          exact jN G hB (v:=u) (by simp[execOp,e,Instr.field,run_underlying R,W,asAgg,z1]) z2
     ·cases C
  ·cases C
 case h_20 t y i=>
  have E:=jV H y
  split at C
  ·rename_i m e cs k n D K hi
   split at C
   ·rename_i J
    obtain⟨c1,c2,c3⟩:=J
    have V:=Zi H hi
    obtain⟨d,ii,R,X,eq⟩:=jx (jB D (by simp))
    rw[eq] at D
    cases d<;>try (cases D;done)
    injection D with hk1 hk2
    subst hk1 hk2
    rename_i m e
    obtain⟨d2,Z,O,N,I⟩:=jx c1
    rw[K] at E
    obtain⟨vs,ee,q⟩:=E
    cases hp:part cs (n.toNat*(zP P e).sz) (zP P e).agg (zP P e).sz with
    | none=>rw[hp] at C;cases C
    | some r=>
      rw[hp] at C
      injection C with C;injection C with hx1 hx2;subst hx1 hx2
      obtain⟨u,z1,z2⟩:=xDa (P:=P) (w:=w) c1 q hp
      have δ:(zP P e).sz=Z.size:=by rw[I]
      rw[δ] at z1
      exact jN G hB (v:=u) (by simp[execOp,V,ee,Instr.index,asIntOf,run_underlying R,sizeOf,typeInfo,N,c2,c3,z1]) z2
   ·cases C
  ·cases C
 case h_21 t y lo hi=>
  split at C
  ·rename_i e D
   cases hr:qc h (ev T y) with
   | none=>rw[hr] at C;cases C
   | some xs=>
     rw[hr] at C
     simp only[Option.bind_some] at C
     cases Q:Z2 T 0 lo with
     | none=>rw[Q] at C;cases C
     | some l=>
       rw[Q] at C
       simp only[Option.bind_some] at C
       cases hm:Z2 T xs.length hi with
       | none=>rw[hm] at C;cases C
       | some m=>
         rw[hm] at C
         simp only[Option.bind_some] at C
         split at C
         ·rename_i J
          obtain⟨c1,c2,c3,c4,c5⟩:=J
          injection C with C;injection C with hx1 hx2;subst hx1 hx2
          exact(Zpa G hB H D hr Q hm c1 c2 c3 c4 c5).of rfl
         ·cases C
  ·cases C
 case h_22 t m k v=>
  split at C
  ·rename_i kt et id kk n D hm Y
   split at C
   ·rename_i kk' es U ho
    split at C
    ·rename_i heq
     subst heq
     cases hi:JD kk' n (ev T v) es with
     | none=>rw[hi] at C;cases C
     | some es'=>
       rw[hi] at C
       injection C with C;injection C with hx1 hx2;subst hx1 hx2
       obtain⟨d,ii,R,X,eq⟩:=jx (jB D (by simp))
       rw[eq] at D
       cases d<;>try (cases D;done)
       injection D with hk1 hk2
       subst hk1 hk2
       obtain⟨d2,Z,O,hin2,I⟩:=jx (jB U (by simp))
       rw[I] at U
       cases d2<;>try (cases U;done)
       have V:=Zi H Y
       have E:=jV H m
       rw[hm] at E
       obtain⟨q,e2⟩:=E
       obtain⟨w',r1,r2⟩:=vza (P:=P) G hB R O ho (jV H v) hi
       refine⟨.skip,undef,w',g,?_,.inr ⟨rfl,rfl⟩,r2,rfl⟩
       simp only[execOp,V,e2]
       have e3:(ctx w g h).β id=g.β id:=rfl
       rw[e3,Sem.run_bind,r1]
       rfl
    ·cases C
   ·cases C
  ·cases C
 case h_23 t m k ok=>
  split at C
  ·rename_i kt et id kk n D hm Y
   split at C
   ·rename_i kk' es z U ho hz
    split at C
    ·rename_i heq
     subst heq
     cases Q:xva kk' n z es with
     | none=>rw[Q] at C;cases C
     | some p=>
       rw[Q] at C
       injection C with C;injection C with hx1 hx2;subst hx1 hx2
       unfold xva at Q
       split at Q
       ·rename_i hko
        injection Q with Q
        subst Q
        obtain⟨d,ii,R,X,eq⟩:=jx (jB D (by simp))
        rw[eq] at D
        cases d<;>try (cases D;done)
        injection D with hk1 hk2
        subst hk1 hk2
        obtain⟨d2,Z,O,hin2,I⟩:=jx (jB U (by simp))
        rw[I] at U
        cases d2<;>try (cases U;done)
        have V:=Zi H Y
        have E:=jV H m
        rw[hm] at E
        obtain⟨q,e2⟩:=E
        obtain⟨zu,z1,z2⟩:=Jha (P:=P) (w:=w) (c:=ctx w g h) hz
        obtain⟨p1,es0,k0,l',p2,p3,p4,p5⟩:=G.ok id _ ho
        obtain⟨u,u1,u2⟩:=Yo (P:=P) (n:=n) (ok:=ok) R O p2 p3 p4 p5 hko z1 z2
        refine jN G hB (v:=u) ?_ u2
        simp only[execOp,V,e2,Sem.run_bind,u1]
        rfl
       ·cases Q
    ·cases C
   ·cases C
  ·cases C
 case h_24 y i=>
  have E:=jV H y
  split at C
  ·rename_i cs K
   split at C
   ·rename_i hi
    injection C with C;injection C with hx1 hx2;subst hx1 hx2
    rw[K] at E
    obtain⟨vs,e,q⟩:=E
    obtain⟨u,q1,q2⟩:=yO q i hi
    have q1':vs[i]? =some u:=by simpa using q1
    exact jN G hB (v:=u) (by simp[execOp,e,Instr.extract,q1']) q2
   ·cases C
  ·cases C
 case h_25 c=>exact Jja G hB H C
 case h_26=>cases C
end
section
variable {φ:Nat->Ob} {h h':List Ob} {P:Program} {x:AV} {T:Nat->AV} {i:Nat} {o:Ob}
theorem Zy:∀(a:AV) {e:Nat},eOf h a=some e->eOf (fill φ h) a=some e
 | .sl _ _,_,b=>b
 | .tl id st,e,b=>by
   simp only[eOf] at b⊢
   split at b
   ·rename_i ty j ys s d
    rw[qL d rfl]
    exact b
   ·cases b
 | .vw a f i n,e,b=>by
   simp only[eOf] at b⊢
   cases c:eOf h a with
   | none=>rw[c] at b;cases b
   | some g=>rw[c] at b;rw[Zy a c];exact b
 | .v _,_,b | .em,_,b | .ptr _ _,_,b | .ep _ _ _ _,_,b | .mp _,_,b | .ag _,_,b | .tup _,_,b | .fn _ _ _,_,b | .bad,_,b=>by cases b
theorem km:∀(a:AV) {xs:List (List AV)},qc h a=some xs->qc (fill φ h) a=some xs
 | .sl _ _,_,b=>b
 | .em,_,b=>b
 | .tl id st,xs,b=>by
   simp only[qc] at b⊢
   split at b
   ·rename_i ty g ys s f
    rw[qL f rfl]
    exact b
   ·cases b
 | .vw a e i n,xs,b=>by
   simp only[qc] at b⊢
   cases c:qc h a with
   | none=>rw[c] at b;cases b
   | some ys=>
     rw[c] at b
     rw[km a c]
     simp only[Option.bind_some] at b⊢
     split at b
     ·rename_i d
      rw[if_pos ⟨d.1,d.2.imp id (Zy a)⟩]
      exact b
     ·cases b
 | .v x,xs,b=>by
   unfold qc at b⊢
   split at b
   ·rename_i heq;cases heq
   ·rename_i heq;cases heq
   ·rename_i heq;cases heq
   ·rename_i heq;cases heq;exact b
   ·rename_i heq;cases heq
   ·cases b
 | .ptr _ _,_,b | .ep _ _ _ _,_,b | .mp _,_,b | .ag _,_,b | .tup _,_,b | .fn _ _ _,_,b | .bad,_,b=>by cases b
theorem xEa(a:AV)(b:X7 h a=true):X7 (fill φ h) a=true:=by
 unfold X7 at b⊢
 rw[Bool.or_eq_true] at b⊢
 refine b.imp id λb=>?_
 cases c:qc h a with
 | none=>rw[c] at b;cases b
 | some xs=>cases d:eOf h a with
   | none=>rw[c,d] at b;cases xs<;>cases b
   | some e=>rw[c,d] at b;rw[km a c,Zy a d];exact b
theorem Zra{op:BinOp}{t:TypeId}(a:AV)(b:xua P h op t a=some x):xua P (fill φ h) op t a=some x:=by
 unfold xua at b⊢
 cases e:(zP P t).kind<;>rw[e] at b<;>first
  | cases b;done
  | skip
 simp only at b⊢
 cases d:xV a with
 | true=>rw[d] at b;exact b
 | false=>
   rw[d] at b
   simp only[Bool.false_eq_true,if_false] at b⊢
   split at b
   ·rename_i c
    rw[if_pos (xEa _ c)];exact b
   ·cases b
theorem Yp{τ:Ty}:∀(a:AV),Jw h τ a=some x->Jw (fill φ h) τ a=some x
 | .ptr id off,b=>by
   simp only[Jw] at b⊢
   split at b
   ·rename_i f
    simp only[qL f rfl]
    exact b
   ·cases b
 | .ep a e i k,b=>by
   simp only[Jw] at b⊢
   split at b
   ·rename_i d
    rw[if_pos ⟨d.1,Zy _ d.2⟩]
    cases c:qc h a with
    | none=>rw[c] at b;cases b
    | some xs=>rw[c] at b;rw[km _ c];exact b
   ·cases b
 | .sl _ _,b | .tl _ _,b | .em,b | .vw _ _ _ _,b | .v _,b | .mp _,b | .ag _,b | .tup _,b | .fn _ _ _,b | .bad,b=>by cases b
theorem Zsa{n:Int}(a:AV)(b:vua h n a=some x):vua (fill φ h) n a=some x:=by
 unfold vua at b⊢
 cases d:qc h a with
 | none=>rw[d] at b;cases b
 | some xs=>
   rw[d] at b
   cases c:eOf h a with
   | none=>rw[c] at b;cases b
   | some e=>rw[c] at b;rw[km a d,Zy a c];exact b
theorem xFa{ns:List AV}:∀(a:AV),Zx h ns a=some h'->Zx (fill φ h) ns a=some (fill φ h')/\ResK h h'
 | .ptr id off,b=>by
   simp only[Zx] at b⊢
   split at b
   ·rename_i ty cs d
    simp only[qL d rfl]
    cases c:lay cs off ns with
    | none=>rw[c] at b;cases b
    | some cs'=>
      rw[c] at b
      injection b with b
      subst b
      exact⟨by rw[ji rfl];rfl,qj d rfl⟩
   ·cases b
 | .ep (.tl id st) e i k,b=>by
   simp only[Zx] at b⊢
   split at b
   ·rename_i ty j xs s d
    simp only[qL d rfl]
    split at b
    ·rename_i f
     rw[if_pos f]
     cases hi:xs[i]? with
     | none=>rw[hi] at b;cases b
     | some r=>
       rw[hi] at b
       simp only[Option.bind_some] at b⊢
       cases c:lay r k ns with
       | none=>rw[c] at b;cases b
       | some g=>
         rw[c] at b
         injection b with b
         subst b
         exact⟨by rw[ji rfl];rfl,qj d rfl⟩
    ·cases b
   ·cases b
 | .ep (.sl _ _) _ _ _,b | .ep .em _ _ _,b | .ep (.vw _ _ _ _) _ _ _,b | .ep (.v _) _ _ _,b | .ep (.ptr _ _) _ _ _,b | .ep (.ep _ _ _ _) _ _ _,b | .ep (.mp _) _ _ _,b | .ep (.ag _) _ _ _,b | .ep (.tup _) _ _ _,b | .ep (.fn _ _ _) _ _ _,b | .ep .bad _ _ _,b=>by cases b
 | .sl _ _,b | .tl _ _,b | .em,b | .vw _ _ _ _,b | .v _,b | .mp _,b | .ag _,b | .tup _,b | .fn _ _ _,b | .bad,b=>by cases b
theorem jxa(f:Upto φ h.length){e:TypeId}(s y:AV)(a:QW P h e s y=some (x,h')):QW P (fill φ h) e s y=some (x,fill φ h')/\ResK h h':=by
 unfold QW at a⊢
 cases c:qc h y with
 | none=>simp[c] at a
 | some ys=>
   rw[km y c]
   simp only[c,Option.bind_some] at a⊢
   split at a
   ·rename_i g
    rw[if_pos g]
    split at a
    ·split at a
     ·rename_i id st ty i xs s d
      simp only[qL d rfl]
      split at a
      ·rename_i b
       rw[if_pos b]
       injection a with a
       injection a with h1 h2
       subst h1 h2
       exact⟨by rw[ji rfl],qj d rfl⟩
      ·cases a
     ·cases a
    ·split at a
     ·rename_i b
      simp only[if_pos b]
      injection a with a
      injection a with h1 h2
      subst h1 h2
      exact⟨by rw[xc f,ju],resK_app⟩
     ·cases a
    ·cases a
   ·cases a
theorem KO{q:Nat × Nat × Nat × Nat}:∀(y:AV),vl h y=some q->vl (fill φ h) y=some q
 | .tl id st,a=>by
   simp only[vl] at a⊢
   split at a
   ·rename_i b;simp only[qL b rfl];exact a
   ·cases a
 | .vw (.tl id st) e i n,a=>by
   simp only[vl] at a⊢
   split at a
   ·rename_i b;simp only[qL b rfl];exact a
   ·cases a
 | .vw (.sl _ _) _ _ _,a | .vw .em _ _ _,a | .vw (.vw _ _ _ _) _ _ _,a | .vw (.v _) _ _ _,a | .vw (.ptr _ _) _ _ _,a | .vw (.ep _ _ _ _) _ _ _,a | .vw (.mp _) _ _ _,a | .vw (.ag _) _ _ _,a | .vw (.tup _) _ _ _,a | .vw (.fn _ _ _) _ _ _,a | .vw .bad _ _ _,a=>by cases a
 | .sl _ _,a | .em,a | .ptr _ _,a | .ep _ _ _ _,a | .v _,a | .mp _,a | .ag _,a | .tup _,a | .fn _ _ _,a | .bad,a=>by cases a
theorem KP{id i ty e:Nat}{ys:List (List AV)}(a:vN h id i ty e ys=some h'):vN (fill φ h) id i ty e ys=some (fill φ h')/\ResK h h':=by
 unfold vN at a⊢
 split at a
 ·rename_i b
  simp only[qL b rfl]
  split at a
  ·rename_i c
   rw[if_pos c]
   injection a with a
   subst a
   exact⟨by rw[ji rfl],qj b rfl⟩
  ·cases a
 ·cases a
theorem vAa(r:Upto φ h.length)(c:Call)(a:Qr P T h c=some (x,h')):Qr P T (fill φ h) c=some (x,fill φ h')/\ResK h h':=by
 unfold Qr at a⊢
 split at a
 ·split at a
  ·rename_i e f
   cases d:qc h (ev T _) with
   | none=>rw[d] at a;cases a
   | some xs=>
     rw[d] at a
     injection a with a;injection a with h1 b;subst h1 b
     simp only[f,km _ d]
     exact⟨rfl,.refl⟩
  ·cases a
 ·split at a
  ·rename_i e f
   split at a
   ·rename_i s
    simp only[f,if_pos s]
    exact jxa r _ _ a
   ·cases a
  ·cases a
 ·split at a
  ·rename_i e f
   cases g:vl h (ev T _) with
   | none=>rw[g] at a;cases a
   | some q=>
     obtain⟨id,st,i,n⟩:=q
     rw[g] at a
     simp only[Option.bind_some] at a
     cases o:(zP P e).zero with
     | none=>rw[o] at a;cases a
     | some z=>
       rw[o] at a
       simp only[Option.bind_some] at a
       split at a
       ·rename_i l
        cases d:vN h id i e (zP P e).sz (List.replicate n (z.map .v)) with
        | none=>rw[d] at a;cases a
        | some b=>
          rw[d] at a
          injection a with a;injection a with h1 b;subst h1 b
          obtain⟨m,p⟩:=KP (φ:=φ) d
          simp only[f,KO _ g,Option.bind_some,o,if_pos l,m]
          exact⟨rfl,p⟩
       ·cases a
  ·cases a
 ·split at a
  ·rename_i e f
   split at a
   ·rename_i l
    cases g:vl h (ev T _) with
    | none=>rw[g] at a;cases a
    | some q=>
      obtain⟨id,st,i,n⟩:=q
      rw[g] at a
      simp only[Option.bind_some] at a
      cases k:qc h (ev T _) with
      | none=>rw[k] at a;cases a
      | some ys=>
        rw[k] at a
        simp only[Option.bind_some] at a
        cases d:vN h id i e (zP P e).sz (ys.take n) with
        | none=>rw[d] at a;cases a
        | some b=>
          rw[d] at a
          injection a with a;injection a with h1 b;subst h1 b
          obtain⟨m,p⟩:=KP (φ:=φ) d
          simp only[f,if_pos l,KO _ g,Option.bind_some,km _ k,m]
          exact⟨rfl,p⟩
   ·cases a
  ·cases a
 ·cases j:xsa _ _ with
  | none=>rw[j] at a;cases a
  | some y=>
    rw[j] at a
    injection a with a;injection a with h1 b;subst h1 b
    exact⟨rfl,.refl⟩
 ·cases j:xta _ _ with
  | none=>rw[j] at a;cases a
  | some y=>
    rw[j] at a
    injection a with a;injection a with h1 b;subst h1 b
    exact⟨rfl,.refl⟩
 ·cases a
theorem xGa{op:Op}{mk:Nat->AV}(a:jG P T op=some (o,mk)):o.isRes=false:=by
 unfold jG at a
 repeat' split at a
 all_goals first
  | cases a;done
  | (simp only[Option.map_eq_some_iff,Prod.mk.injEq] at a;obtain⟨_,_,rfl,_⟩:=a;rfl)
  | (injection a with a;injection a with h1 h2;subst h1;rfl)
theorem xM{α:Type}{y:Option α}{f:α->AV}(b:(y.map λa=>(f a,h))=some (x,h')):∃a,y=some a/\f a=x/\h=h':=by
 cases y with
 | none=>cases b
 | some a=>injection b with b;injection b with h1 h2;exact⟨a,rfl,h1,h2⟩
theorem Z4(I:Upto φ h.length)(op:Op)(b:qf P T h op=some (x,h')):qf P T (fill φ h) op=some (x,fill φ h')/\ResK h h':=by
 have alloc:∀s,(jG P T s).map (λq=>(q.2 h.length,h++[q.1]))=some (x,h')->(jG P T s).map (λq=>(q.2 (fill φ h).length,fill φ h++[q.1]))=some (x,fill φ h')/\ResK h h':=λs b=>by
  cases H:jG P T s with
  | none=>rw[H] at b;cases b
  | some q=>
    rw[H] at b
    injection b with b;injection b with g d;subst g d
    exact⟨by rw[xc I,ju];rfl,resK_app⟩
 have same:∀ {y:AV},some (y,h)=some (x,h')->some (y,fill φ h)=some (x,fill φ h')/\ResK h h':=λe=>by
  injection e with e;injection e with g d;subst g d;exact⟨rfl,.refl⟩
 cases op with
 | move y=>exact same b
 | assign y=>exact same b
 | makeFunc f p q=>exact same b
 | alloc t=>exact alloc _ b
 | box t y=>exact alloc _ b
 | buildSlice t n F=>exact alloc _ b
 | makeSlice t l c=>exact alloc _ b
 | makeMap t r=>exact alloc _ b
 | call c=>exact vAa I c b
 | load t y=>
   obtain⟨a,g,d,o⟩:=xM b
   subst d o
   exact⟨by simp only[qf,Yp _ g];rfl,.refl⟩
 | store t y z=>
   simp only[qf] at b⊢
   split at b
   ·rename_i K
    cases j:(ev T z).cells with
    | none=>rw[j] at b;cases b
    | some ns=>
      rw[j] at b
      simp only[Option.bind_some] at b
      split at b
      ·rename_i A
       cases E:Zx h ns (ev T y) with
       | none=>rw[E] at b;cases b
       | some d=>
         rw[E] at b
         injection b with b;injection b with g d;subst g d
         obtain⟨O,M⟩:=xFa (φ:=φ) _ E
         exact⟨by simp only[if_pos K,j,Option.bind_some,if_pos A,O];rfl,M⟩
      ·cases b
   ·cases b
 | binOp op t y z u=>
   simp only[qf] at b⊢
   split at b
   ·rename_i D
    obtain⟨a,g,d,o⟩:=xM b
    subst d o
    exact⟨by simp only[if_pos D,Zra _ g];rfl,.refl⟩
   ·rename_i D
    obtain⟨a,g,d,o⟩:=xM b
    subst d o
    exact⟨by simp only[if_neg D,g];rfl,.refl⟩
 | indexAddr t y z=>
   simp only[qf] at b⊢
   split at b
   ·split at b
    ·rename_i j
     obtain⟨a,g,d,o⟩:=xM b
     subst d o
     exact⟨by simp only[if_pos (show _/\_/\_ from⟨j.1,j.2.1,Zy (φ:=φ) _ j.2.2⟩),Zsa _ g];rfl,.refl⟩
    ·cases b
   ·split at b
    ·rename_i j
     simp only[if_pos j]
     split at b
     ·exact same b
     ·exact same b
     ·cases b
    ·cases b
   ·cases b
 | slice t y lo hi N=>
   cases N with
   | some m=>cases b
   | none=>
     simp only[qf] at b⊢
     split at b
     ·rename_i e Q
      cases C:qc h (ev T y) with
      | none=>rw[C] at b;cases b
      | some xs=>
        rw[C] at b
        simp only[km _ C,Option.bind_some] at b⊢
        cases A:Z2 T 0 lo with
        | none=>rw[A] at b;cases b
        | some l=>
          rw[A] at b
          simp only[Option.bind_some] at b⊢
          cases J:Z2 T xs.length hi with
          | none=>rw[J] at b;cases b
          | some m=>
            rw[J] at b
            simp only[Option.bind_some] at b⊢
            split at b
            ·rename_i j
             rw[if_pos ⟨j.1,j.2.1,j.2.2.1,j.2.2.2.1,j.2.2.2.2.imp id λk=>⟨k.1,Zy _ k.2⟩⟩]
             exact same b
            ·cases b
     ·cases b
 | insert t m k v=>
   simp only[qf] at b⊢
   split at b
   ·split at b
    ·rename_i kk' es w B
     simp only[qL B rfl]
     split at b
     ·rename_i heq
      simp only[w,if_pos heq]
      cases hi:JD _ _ (ev T v) es with
      | none=>rw[hi] at b;cases b
      | some es'=>
        rw[hi] at b
        injection b with b;injection b with g d;subst g d
        exact⟨by rw[ji rfl];rfl,qj B rfl⟩
     ·cases b
    ·cases b
   ·cases b
 | lookup t m k ok=>
   simp only[qf] at b⊢
   split at b
   ·split at b
    ·rename_i kk' es z w B L
     simp only[qL B rfl,L]
     split at b
     ·rename_i heq
      simp only[w,if_pos heq]
      cases A:xva _ _ z es with
      | none=>rw[A] at b;cases b
      | some p=>
        rw[A] at b
        exact same b
     ·cases b
    ·cases b
   ·cases b
 | build t F=>
   have h0:∀h,qf P T h (.build t F)=(qf P T [] (.build t F)).map λq=>(q.1,h):=λh=>by
    simp only[qf]
    split
    ·split
     ·cases (zP P t).zero with
      | none=>rfl
      | some z=>simp only[Option.bind_some];cases yP _ _ _<;>rfl
     ·rfl
    ·split
     ·cases (zP P t).zero with
      | none=>rfl
      | some z=>simp only[Option.bind_some];cases yP _ _ _<;>rfl
     ·rfl
    ·rfl
   rw[h0] at b⊢
   obtain⟨a,g,d,o⟩:=xM b
   subst d o
   exact⟨by rw[g];rfl,.refl⟩
 | fieldAddr t y i=>
   have h0:∀h,qf P T h (.fieldAddr t y i)=(qf P T [] (.fieldAddr t y i)).map λq=>(q.1,h):=λh=>by
    simp only[qf]
    split
    ·rename_i G _
     cases G[i]? with
     | none=>rfl
     | some f=>
       simp only[Option.bind_some]
       split
       ·split<;>rfl
       ·rfl
    ·rfl
   rw[h0] at b⊢
   obtain⟨a,g,d,o⟩:=xM b
   subst d o
   exact⟨by rw[g];rfl,.refl⟩
 | field t y i=>
   have h0:∀h,qf P T h (.field t y i)=(qf P T [] (.field t y i)).map λq=>(q.1,h):=λh=>by
    simp only[qf]
    split
    ·rename_i G _ _ _
     cases G[i]? with
     | none=>rfl
     | some f=>
       simp only[Option.bind_some]
       split
       ·cases part _ _ _ _<;>rfl
       ·rfl
    ·rfl
   rw[h0] at b⊢
   obtain⟨a,g,d,o⟩:=xM b
   subst d o
   exact⟨by rw[g];rfl,.refl⟩
 | _=>
   simp only[qf] at b⊢
   try cases b
   all_goals (repeat' split at b)
   all_goals first
    | cases b;done
    | exact same b
    | (obtain⟨a,g,d,o⟩:=xM b;subst d o;exact⟨by simp only[g];rfl,.refl⟩)
    | (rename_i j;rw[if_pos j];exact same b)
    | (rename_i j;rw[if_neg j];exact same b)
    | (rename_i j;rw[if_pos j];obtain⟨a,g,d,o⟩:=xM b;subst d o;exact⟨by simp only[g];rfl,.refl⟩)
end
