import Derived.Test.YtigdlmpjijhpaaaGreatKA
import Derived.Test.YtigdlmpjijhpaaaGreatK01
import Derived.Laws.Pointers
import Derived.WalkSpells
import Derived.ChangeKeysEq
import Derived.Laws.BytesString
import Derived.Laws.Cells
set_option linter.all false
namespace Go.Proofs.YtigdlmpjijhpaaaGreat.Ax
open Go Go.RowKit
section
variable {B:Nat} {w:World} {g:Gh} {h h':List Ob} {P:Program} {x:AV} {T:Nat->AV} {a:Act}
theorem KO(d:Nat):∀(l:List Field) (o:Nat) (xs ys:List AV) (us vs:List Value) (U V:Array Value) (r:Bool),
  yu P o (l.map λf=>(f.offset,f.type))=true->(l.all λf=>f.name != "_")=true->xs.length=l.length->kP xs ys=some r->ARs (ctx w g h) xs us->ARs (ctx w g h) ys vs->
  (∀j,us[j]? =U[o+j]?)->(∀j,vs[j]? =V[o+j]?)->(Op.eqFields (d+1) U V l).run P w= .ok r w
 | [],o,xs,ys,us,vs,U,V,r,_,_,t,a,_,_,_,_=>by
   have:xs=[]:=zF t
   subst this
   cases ys with
   | nil=>injection a with a;subst a;simp[Op.eqFields]
   | cons y ys=>cases a
 | f::l,o,xs,ys,us,vs,U,V,r,hi,B,t,a,N,W,L,M=>by
   cases xs with
   | nil=>cases t
   | cons x xs=>
     cases ys with
     | nil=> cases x<;>try (cases a;done)
             rename_i v;cases v<;>cases a
     | cons y ys=>
       cases x<;>try (cases a;done)
       rename_i x
       cases x<;>try (cases a;done)
       rename_i k m
       cases y<;>try (cases a;done)
       rename_i y
       cases y<;>try (cases a;done)
       rename_i k' s
       simp only[kP] at a
       split at a
       ·rename_i X
        subst X
        cases A:kP xs ys with
        | none=>rw[A] at a;cases a
        | some R=>
          rw[A] at a
          injection a with a
          obtain⟨u,F,E,c,G⟩:=N
          obtain⟨v,D,J,i,C⟩:=W
          have c:u= .int k m:=c
          have i:v= .int k s:=i
          subst c i E J
          simp only[List.map_cons,yu,zq,beq_iff_eq] at hi
          obtain⟨⟨K,p⟩,hi⟩:=hi
          simp only[List.all_cons,zq] at B
          cases b:(zQ P f.type).kind<;>rw[b] at p<;>try (cases p;done)
          rename_i kk
          obtain⟨S,ii,e,O,eq⟩:=jy (jB b (by simp))
          rw[eq] at b
          cases S<;>try (cases b;done)
          rename_i k2
          have q:=L 0
          have n:=M 0
          simp only[List.getElem?_cons_zero,Nat.add_zero] at q n
          have I:(_root_.Go.part f.type U f.offset).run P w= .ok (.int k m) w:=by
           simp[Go.part,isAgg,run_underlying e,K, <-q]
          have H:(_root_.Go.part f.type V f.offset).run P w= .ok (.int k s) w:=by
           simp[Go.part,isAgg,run_underlying e,K, <-n]
          have T:=KO d l (o+1) xs ys F D U V R hi B.2 (by simpa using t) A G C
           (λj=>by have:=L (j+1);rw[show o+1+j=o+(j+1) by omega];simpa using this) (λj=>by have:=M (j+1);rw[show o+1+j=o+(j+1) by omega];simpa using this)
          have z:f.name≠ "_" :=by simpa using B.1
          simp only[Op.eqFields,z,ne_eq,not_false_eq_true,if_true,Sem.run_bind,I,H,Result.andThen_ok,run_equalIn_int w d f.type k k2 m s e,Sem.run_ite,Sem.run_pure,T]
          cases Q:(m==s)<;>simp[<-a,Q]
       ·cases a
theorem VD(o:wU (ctx w g h) T a){t:TypeId}{X Y:Operand}{xs ys:List AV}{l:List (Nat × TypeId)}{b:Bool}(v:ev T X= .ag xs)(r:ev T Y= .ag ys)(c:(zQ P t).kind= .struct l)(e:xC P t=true)(hi:yu P 0 l=true)(q:xs.length=l.length)(u:kP xs ys=some b):
  ∃U V,a.eval X= .agg U/\a.eval Y= .agg V/\(Op.equalIn 10000 t (.agg U) (.agg V)).run P w= .ok b w/\P.eqGuardType P.depth t=false:=by
 have f:=jV o X
 have k:=jV o Y
 rw[v] at f
 rw[r] at k
 obtain⟨U,x,f⟩:=f
 obtain⟨V,s,k⟩:=k
 obtain⟨d,i,n,p,eq⟩:=jy (jB c (by simp))
 rw[eq] at c
 cases d<;>try (cases c;done)
 rename_i fields
 injection c with c
 simp only[xC,zq,Bool.not_eq_true'] at e
 have m:P.fieldsOf t=fields:=by simp[Program.fieldsOf,n]
 rw[m] at e
 refine⟨U,V,x,s,?_,e.1.1⟩
 rw[run_equalIn_struct (P:=P) w 9999 t U V (by rw[m];exact n) e.1.2,m]
 exact KO (g:=g) (h:=h) 9998 fields.toList 0 xs ys U.toList V.toList U V b (by rw[<-c] at hi;exact hi) e.2 (by rw[q, <-c];simp) u f k (λj=>by simp) (λj=>by simp)
theorem Wp(d:Nat){e:TypeId}{k2:IntKind}(b:P.underlying e=some (.int k2)):∀(xs ys:List AV) (o:Nat) (us vs:List Value) (U V:Array Value) (r:Bool),kP xs ys=some r->ARs (ctx w g h) xs us->ARs (ctx w g h) ys vs->(∀j,us[j]? =U[o+j]?)->(∀j,vs[j]? =V[o+j]?)->
  (Op.eqItems (d+1) e 1 U V (List.range' o xs.length)).run P w= .ok r w
 | [],ys,o,us,vs,U,V,r,a,G,H,q,A=>by
   cases ys with
   | nil=>injection a with a;subst a;rfl
   | cons y ys=>cases a
 | x::xs,ys,o,us,vs,U,V,r,a,G,H,q,A=>by
   cases ys with
   | nil=> cases x<;>try (cases a;done)
           rename_i v;cases v<;>cases a
   | cons y ys=>
     cases x<;>try (cases a;done)
     rename_i x
     cases x<;>try (cases a;done)
     rename_i k m
     cases y<;>try (cases a;done)
     rename_i y
     cases y<;>try (cases a;done)
     rename_i k' n
     simp only[kP] at a
     split at a
     ·rename_i L
      subst L
      cases p:kP xs ys with
      | none=>rw[p] at a;cases a
      | some J=>
        rw[p] at a
        injection a with a
        obtain⟨u,B,z,c,C⟩:=G
        obtain⟨v,t,F,f,s⟩:=H
        have c:u= .int k m:=c
        have f:v= .int k n:=f
        subst c f z F
        have l:=q 0
        have i:=A 0
        simp only[List.getElem?_cons_zero,Nat.add_zero] at l i
        have E:(_root_.Go.part e U (o*1)).run P w= .ok (.int k m) w:=by
         simp[Go.part,isAgg,run_underlying b, <-l]
        have D:(_root_.Go.part e V (o*1)).run P w= .ok (.int k n) w:=by
         simp[Go.part,isAgg,run_underlying b, <-i]
        have K:=Wp d b xs ys (o+1) B t U V J p C s
         (λj=>by have:=q (j+1);rw[show o+1+j=o+(j+1) by omega];simpa using this) (λj=>by have:=A (j+1);rw[show o+1+j=o+(j+1) by omega];simpa using this)
        rw[List.length_cons,List.range'_succ]
        simp only[Op.eqItems,Sem.run_bind,E,D,Result.andThen_ok,run_equalIn_int w d e k k2 m n b,Sem.run_ite,Sem.run_pure,K]
        cases I:(m==n)<;>simp[<-a,I]
     ·cases a
theorem YXa(v:wU (ctx w g h) T a){t e:TypeId}{n:Nat}{X Y:Operand}{xs ys:List AV}{b:Bool}(D:ev T X= .ag xs)(C:ev T Y= .ag ys)(q:(zQ P t).kind= .arr n e)(y:xC P t=true)(hi:Vea P e=true)(H:xs.length=n)(A:kP xs ys=some b):
  ∃U V,a.eval X= .agg U/\a.eval Y= .agg V/\(Op.equalIn 10000 t (.agg U) (.agg V)).run P w= .ok b w/\P.eqGuardType P.depth t=false:=by
 have o:=jV v X
 have p:=jV v Y
 rw[D] at o
 rw[C] at p
 obtain⟨U,B,o⟩:=o
 obtain⟨V,G,p⟩:=p
 obtain⟨d,i,E,z,eq⟩:=jy (jB q (by simp))
 rw[eq] at q
 cases d<;>try (cases q;done)
 rename_i n' x
 injection q with hk1 hk2
 subst hk1
 subst hk2
 simp only[xC,zq,Bool.not_eq_true'] at y
 simp only[Vea,zq,beq_iff_eq] at hi
 obtain⟨m,f⟩:=hi
 cases c:(zQ P x).kind<;>rw[c] at m<;>try (cases m;done)
 rename_i k
 obtain⟨F,I,s,l,u⟩:=jy (jB c (by simp))
 rw[u] at c f
 cases F<;>try (cases c;done)
 have r:P.cellsOf x=1:=by
  have f:I.size=1:=f
  simp[Program.cellsOf,l,f]
 refine⟨U,V,B,G,?_,y.1.1⟩
 rw[run_equalIn_array (P:=P) w 9999 U V E l,r,List.range_eq_range', <-H]
 exact Wp (g:=g) (h:=h) 9998 s xs ys 0 U.toList V.toList U V b A o p (λj=>by simp) (λj=>by simp)
theorem Vga(y:HOk B w g h)(hB:B<=w.heap.size)(s:wU (ctx w g h) T a){op:BinOp}{t:TypeId}{X Y:Operand}(c:Jna P op t (ev T X) (ev T Y)=some x):
  DidV P (do eqGuard op t X Y (a.eval X) (a.eval Y);binOp op t (a.eval X) (a.eval Y)) B w g h x h:=by
 unfold Jna at c
 split at c
 ·rename_i k m k' n u r
  have j:=Zm s u
  have l:=Zm s r
  have H:(eqGuard op t X Y (.int k m) (.int k' n)).run P w= .ok () w:=by cases op<;>simp[eqGuard]
  split at c
  ·split at c
   ·rename_i I
    have G:¬ n<0:=by omega
    rw[j,l]
    cases op<;>simp only[vya] at c<;>first
     | cases c;done
     | (injection c with c
        subst c
        refine jM y hB ?_ rfl
        simp[H,binOp,Op.shift,G]
        done)
   ·cases c
  ·rename_i J
   split at c
   ·rename_i f
    subst f
    rw[j,l]
    cases op<;>simp only[vza] at c<;>first
     | cases c;done
     | (injection c with c;subst c
        refine jM y hB ?_ rfl
        simp[H,binOp,Op.intArith,Op.intCmp,Op.intDiv,Op.intBits]
        done)
     | (split at c
        ·cases c
        ·rename_i I
         injection c with c
         subst c
         refine jM y hB ?_ rfl
         simp[H,binOp,Op.intDiv,I])
   ·cases c
 ·rename_i p q u r
  have j:=Zm s u
  have l:=Zm s r
  split at c
  ·rename_i f
   injection c with c
   subst c
   obtain⟨d,i,C,A,eq⟩:=jy (jB f (by simp))
   rw[eq] at f
   cases d<;>try (cases f;done)
   rw[j,l]
   refine jM y hB ?_ rfl
   simp[eqGuard,binOp,Op.equal,Op.maxDepth,run_equalIn_bool' w 9999 t p q C]
  ·rename_i f
   injection c with c
   subst c
   obtain⟨d,i,C,A,eq⟩:=jy (jB f (by simp))
   rw[eq] at f
   cases d<;>try (cases f;done)
   rw[j,l]
   refine jM y hB ?_ rfl
   simp[eqGuard,binOp,Op.equal,Op.maxDepth,run_equalIn_bool' w 9999 t p q C]
  ·cases c
 ·rename_i xs ys u r
  split at c
  ·rename_i K f
   split at c
   ·rename_i o
    simp only[zq,beq_iff_eq] at o
    cases v:kP xs ys with
    | none=>rw[v] at c;cases c
    | some b=>
      rw[v] at c
      injection c with c
      subst c
      obtain⟨U,V,j,l,E,D⟩:=VD s u r f o.1.1 o.1.2 o.2 v
      rw[j,l]
      refine jM y hB ?_ rfl
      simp only[Sem.run_bind,run_eqGuard_agg w _ t X Y U V D,Result.andThen_ok,run_eql_struct,E]
   ·cases c
  ·rename_i K f
   split at c
   ·rename_i o
    simp only[zq,beq_iff_eq] at o
    cases v:kP xs ys with
    | none=>rw[v] at c;cases c
    | some b=>
      rw[v] at c
      injection c with c
      subst c
      obtain⟨U,V,j,l,E,D⟩:=VD s u r f o.1.1 o.1.2 o.2 v
      rw[j,l]
      refine jM y hB ?_ rfl
      simp only[Sem.run_bind,run_eqGuard_agg w _ t X Y U V D,Result.andThen_ok,run_neq_struct,E]
   ·cases c
  ·rename_i n e f
   split at c
   ·rename_i o
    simp only[zq,beq_iff_eq] at o
    cases v:kP xs ys with
    | none=>rw[v] at c;cases c
    | some b=>
      rw[v] at c
      injection c with c
      subst c
      obtain⟨U,V,j,l,E,D⟩:=YXa s u r f o.1.1 o.1.2 o.2 v
      rw[j,l]
      refine jM y hB ?_ rfl
      simp only[Sem.run_bind,run_eqGuard_agg w _ t X Y U V D,Result.andThen_ok,run_eql_struct,E]
   ·cases c
  ·cases c
 ·rename_i u r
  have j:=Zm s u
  have l:=Zm s r
  split at c
  all_goals first|cases c;done|skip
  all_goals
   rename_i f
   injection c with c
   subst c
   obtain⟨d,i,C,A,eq⟩:=jy (jB f (by simp))
   rw[eq] at f
   cases d<;>try (cases f;done)
   rw[j,l]
   refine jM y hB ?_ rfl
   have z:P.underlying t=some (.pointer (P.pointee t)):=by simp[Program.pointee,C]
   simp[eqGuard,run_eql_pointer_nil w t _ z,run_neq_pointer_nil w t _ z]
 ·rename_i id off u r
  have F:=jV s X
  rw[u] at F
  obtain⟨_,j⟩:=F
  have l:=Zm s r
  split at c
  all_goals first|cases c;done|skip
  all_goals
   rename_i f
   injection c with c
   subst c
   obtain⟨d,i,C,A,eq⟩:=jy (jB f (by simp))
   rw[eq] at f
   cases d<;>try (cases f;done)
   rw[j,l]
   refine jM y hB ?_ rfl
   have z:P.underlying t=some (.pointer (P.pointee t)):=by simp[Program.pointee,C]
   simp[eqGuard,run_eql_pointer_nil w t _ z,run_neq_pointer_nil w t _ z]
 ·rename_i p q u r
  have j:=Zm s u
  have l:=Zm s r
  rw[j,l]
  cases op<;>simp only at c<;>first
   | cases c;done
   | (injection c with c
      subst c
      refine jM y hB ?_ rfl
      simp[eqGuard,binOp,Op.stringOp])
 ·cases c
theorem xDa(i:HOk B w g h){y:AV}{u:Value}(a:X8 h y=true)(c:AR (ctx w g h) y u):∃A n k,u= .slice (some A) n k:=by
 unfold X8 at a
 rw[Bool.or_eq_true] at a
 rcases a with a|a
 ·unfold YVa at a
  split at a
  ·obtain⟨A,k,e⟩:=c;exact⟨A,0,k,e⟩
  ·cases a
 ·unfold jxa at a
  split at a
  ·rename_i r rs e l m
   simp only[decide_eq_true_eq] at a
   obtain⟨A,k,o,s,f,_⟩:=wB i _ c l
   have b:=f e m
   have q:=b.len r (by simp)
   obtain⟨j,p,d,_⟩:=b.cell 0 0 r (nth r 0) rfl (Z1 (by omega))
   subst d
   exact⟨j,_,_,o⟩
  ·cases a
theorem Vha(q:HOk B w g h)(hB:B<=w.heap.size)(E:wU (ctx w g h) T a){op:BinOp}{t:TypeId}{X Y:Operand}(r:Xr Y=true)(f:xxa P h op t (ev T X)=some x):
  DidV P (do eqGuard op t X Y (a.eval X) (a.eval Y);binOp op t (a.eval X) (a.eval Y)) B w g h x h:=by
 have z:∃n c,a.eval Y= .slice none n c:=by
  unfold Xr at r
  split at r
  ·exact⟨_,_,rfl⟩
  ·cases r
 obtain⟨n,c,D⟩:=z
 rw[D]
 unfold xxa at f
 split at f
 ·rename_i e s
  obtain⟨d,i,v,y,eq⟩:=jy (jB s (by simp))
  rw[eq] at s
  cases d<;>try (cases s;done)
  have key:∀A m k b,a.eval X= .slice A m k->A.isNone=b->Yk op b=some x->DidV P (do eqGuard op t X Y (a.eval X) (.slice none n c);binOp op t (a.eval X) (.slice none n c)) B w g h x h:=λA m k b o u j=>by
   rw[o]
   cases op<;>simp only[Yk] at j<;>first
    | cases j;done
    | skip
   ·injection j with j
    subst j
    refine jM q hB ?_ rfl
    simp[eqGuard,Lib.run_eql_slice_nil w t _ A m k n c v,u]
   ·injection j with j
    subst j
    refine jM q hB ?_ rfl
    simp[eqGuard,run_neq_slice_nil_any w t _ A m k n c v,u]
  have l:=jV E X
  split at f
  ·rename_i p
   unfold xZ at p
   split at p
   ·rename_i m k o
    rw[o] at l
    have l:a.eval X= .slice none m k:=l
    exact key none m k true l rfl f
   ·cases p
  ·split at f
   ·rename_i C
    obtain⟨A,m,k,o⟩:=xDa q C l
    exact key (some A) m k false o rfl f
   ·cases f
 ·cases f
end
section
variable {B:Nat} {w:World} {g:Gh} {h h':List Ob} {P:Program} {x:AV} {T:Nat->AV} {a:Act}
theorem Yn(F:HOk B w g h){y:AV}{u:Value}{id st i n:Nat}(a:vm h y=some (id,st,i,n))(z:AR (ctx w g h) y u):
  ∃ty e xs A k,h[id]? =some (.row ty e xs st)/\i+n<=xs.length/\u= .slice A n k/\(0<n->∃l m j,g.cur id= .slice (some l) m j/\A=some (l.add (i*e))):=by
 unfold vm at a
 split at a
 ·rename_i b st'
  split at a
  ·rename_i ty e xs s f
   split at a
   ·rename_i p
    injection a with a
    injection a with h1 a
    injection a with h2 a
    injection a with h3 h4
    subst h1 h2 h3 h4
    subst p
    have v:=Qj z f
    obtain⟨O,K,cells,C,J⟩:=F.ok _ _ f
    obtain⟨A,j,c,Q⟩:=yr C
    have c:g.cur b= .slice A xs.length j:=c
    refine⟨ty,e,xs,A,j,f,by omega,v.trans c,λo=>?_⟩
    rcases C.2 with⟨d,t⟩|⟨P,cap,cur,d,_⟩
    ·rw[t] at o;simp at o
    ·have d:g.cur b=_:=d
     rw[d] at c
     injection c with c e3 e4
     exact⟨_,_,_,d,by rw[<-c,Nat.zero_mul];rfl⟩
   ·cases a
  ·cases a
 ·rename_i b st' N I L
  split at a
  ·rename_i ty e xs s f
   split at a
   ·rename_i p
    obtain⟨q,r,x⟩:=p
    injection a with a
    injection a with h1 a
    injection a with h2 a
    injection a with h3 h4
    subst h1 h2 h3 h4
    subst q r
    obtain⟨A,m,j,D,k,G,R,M,E,H,_⟩:=z
    have v:=Qj G f
    refine⟨ty,e,xs,D,k,f,x,E,λo=>?_⟩
    obtain⟨l,d,t⟩:=H o
    subst d
    exact⟨l,m,j,v.symm,t⟩
   ·cases a
  ·cases a
 ·cases a
theorem qS{α:Type}{l:List α}{i:Nat}{a:α}(h:l[i]? =some a):l.set i a=l:=by
 apply qX
 intro j
 by_cases b:i=j
 ·subst b;rw[zp (zd.1 h).1,h]
 ·rw[zc b]
theorem yna:∀(p q r s:List AV),q.length=s.length->lay (p++q++r) p.length s=some (p++s++r)
 | [],q,r,s,c=>by
   have key:∀(s q:List AV),q.length=s.length->lay (q++r) 0 s=some (s++r):=by
    intro s
    induction s with
    | nil=>
      intro q b
      have:q=[]:=zF (by simpa using b)
      subst this
      simp only[List.nil_append]
      cases r<;>rfl
    | cons y s d=>
      intro q b
      cases q with
      | nil=>cases b
      | cons z q=>
        simp only[List.cons_append,lay]
        rw[d q (by simpa using b)]
        rfl
   simpa using key s q c
 | a::p,q,r,s,c=>by
   have:=yna p q r s c
   simp only[List.cons_append,List.length_cons,lay]
   rw[this]
   rfl
theorem Jpa{e:Nat}{xs ys:List (List AV)}{i:Nat}(c:∀x∈xs,x.length=e)(g:∀y∈ys,y.length=e)(hi:i+ys.length<=xs.length):
  lay xs.flatten (i*e) ys.flatten=some (kQ xs i ys).flatten/\(∀x∈kQ xs i ys,x.length=e)/\(kQ xs i ys).length=xs.length:=by
 have j:xs=xs.take i++(xs.drop i).take ys.length++xs.drop (i+ys.length):=by
  rw[zt, <-List.drop_drop,qQ,qQ]
 have a:∀x∈xs.take i,x.length=e:=λx h=>c x (List.mem_of_mem_take h)
 have b:∀x∈(xs.drop i).take ys.length,x.length=e:=λx h=>c x (List.mem_of_mem_drop (List.mem_of_mem_take h))
 have d:(xs.take i).flatten.length=i*e:=by rw[vU a];congr 1;simp;omega
 have f:((xs.drop i).take ys.length).flatten.length=ys.flatten.length:=by rw[vU b,vU g];congr 1;simp;omega
 refine⟨?_,λx h=>?_,by simp[kQ];omega⟩
 ·have:=yna (xs.take i).flatten ((xs.drop i).take ys.length).flatten (xs.drop (i+ys.length)).flatten ys.flatten f
  rw[d] at this
  conv=>lhs;rw[j]
  simp only[List.flatten_append,kQ]
  exact this
 ·unfold kQ at h
  rcases zK.1 h with h|h
  ·rcases zK.1 h with h|h
   ·exact a x h
   ·exact g x h
  ·exact c x (List.mem_of_mem_drop h)
theorem xEa(c:HOk B w g h)(hB:B<=w.heap.size){id st i n ty e:Nat}{xs ys:List (List AV)}(d:h[id]? =some (.row ty e xs st))(a:i+ys.length<=xs.length)(k:∀y∈ys,y.length=e){f:Addr}{m l:Nat}(p:g.cur id= .slice (some f) m l)
  {vs:List Value} (b:ARs (ctx w g h) ys.flatten vs) (q:∀v∈vs,v.oneCell'=true):
  ∃w' g',(storeCells (f.add (i*e)) vs).run P w= .ok () w'/\Good B w g h w' g' (h.set id (.row ty e (kQ xs i ys) st)):=by
 obtain⟨r,j,cells,s,t⟩:=c.ok _ _ d
 obtain⟨o,l2,l3⟩:=Jpa j k a
 exact yma c hB d p b q o l2 l3
theorem Zva(D:HOk B w g h)(hB:B<=w.heap.size){t ty e:TypeId}{y:AV}{u:Value}(T:AR (ctx w g h) y u)(f:(zQ P t).kind= .slice e){id st i n:Nat}(K:vm h y=some (id,st,i,n)){z:List Value}(s:(zQ P e).zero=some z)
  (R:(zQ P e).ok=true) (hl:z.length=(zQ P e).sz) (b:vP h id i e (zQ P e).sz (List.replicate n (z.map .v))=some h'):
  ∃w' g',(Builtin.clear_ #[t] ty #[u]).run P w= .ok (.tuple #[]) w'/\Good B w g h w' g' h':=by
 obtain⟨d,it,l,N,eq⟩:=jy (jB f (by simp))
 rw[eq] at f
 cases d<;>try (cases f;done)
 injection f with f
 subst f
 rename_i e
 obtain⟨O,W,xs,A,k,p1,p2,G,J⟩:=Yn D K T
 unfold vP at b
 rw[p1] at b
 simp only at b
 split at b
 ·rename_i Z
  obtain⟨Q,V,L⟩:=Z
  injection b with b
  subst b
  subst Q
  by_cases I:n=0
  ·subst I
   have:kQ xs i (List.replicate 0 (z.map AV.v))=xs:=by simp[kQ]
   rw[this,qS p1]
   refine⟨w,g,?_,Good.refl D hB⟩
   subst G
   cases A<;>simp[Builtin.clear_,run_underlying l]
  ·obtain⟨ad,m,cp,X,r2⟩:=J (by omega)
   obtain⟨d',M,U,F,o⟩:=jy R
   cases c:M.zero with
   | none=>rw[o] at s;simp[c] at s
   | some x=>
     have H:x.cells.toList=z:=by rw[o] at s;simpa [c] using s
     have a:∀y∈List.replicate n (z.map AV.v),y.length=W:=λy hy=>by rw[List.eq_of_mem_replicate hy];simp[hl,V]
     have C:(List.replicate n (z.map AV.v)).flatten=(List.replicate n z).flatten.map AV.v:=by
      clear a L p2 J G K
      induction n with
      | zero=>simp
      | succ m ih=>simp[List.replicate_succ]
     have q:∀v∈(List.replicate n z).flatten,v.oneCell'=true:=λv Y=>by
      obtain⟨r,E,p⟩:=List.mem_flatten.1 Y
      rw[List.eq_of_mem_replicate E] at p
      have:=qb.1 L (z.map AV.v) (by rw[List.mem_replicate];exact⟨I,rfl⟩)
      simp only[zq] at this
      have:=qb.1 this.2 (.v v) (zr.2 ⟨v,p,rfl⟩)
      exact this
     obtain⟨w',g',S,s2⟩:=xEa (P:=P) (n:=n) D hB p1 (i:=i) (ys:=List.replicate n (z.map AV.v)) (by simpa using p2) a X (vs:=(List.replicate n z).flatten) (by rw[C];exact JM _) q
     refine⟨w',g',?_,s2⟩
     subst G
     subst r2
     have j:(Builtin.zeroCells x.cells n).toList=(List.replicate n z).flatten:=by
      have:=XX x.cells n
      rw[H] at this
      exact this
     obtain⟨n,rfl⟩:∃m,n=m+1:=⟨n - 1,by omega⟩
     simp[Builtin.clear_,run_underlying l,Yl F c,j,S]
 ·cases b
theorem qta{sz n:Nat}{A:Option Addr}{m k:Nat}{vs:List Value}(b:vs.length=n*sz)(c:A=none->n=0)(d:∀a,A=some a->∀j u,vs[j]? =some u->w.cell? (a.add j)=some u):(Builtin.firstCells sz n (.slice A m k)).run P w= .ok vs.toArray w:=by
 cases A with
 | none=>
   have:vs=[]:=zF (by rw[b,c rfl,Nat.zero_mul])
   subst this
   simp[Builtin.firstCells]
 | some a=>
   have:=run_loadCells_list (P:=P) w a vs (d a rfl)
   rw[b] at this
   simpa [Builtin.firstCells] using this
theorem Jqa(M:HOk B w g h)(hB:B<=w.heap.size){t ty e:TypeId}{y s:AV}{u v:Value}(hu:AR (ctx w g h) y u)(hv:AR (ctx w g h) s v)(x:(zQ P t).kind= .slice e){id st i n:Nat}(hp:vm h y=some (id,st,i,n)){ys:List (List AV)}(z:qa h s=some ys)
  (ho:(zQ P e).ok=true) (h0:0<(zQ P e).sz) (o:vP h id i e (zQ P e).sz (ys.take n)=some h'):
  ∃w' g',(Builtin.copy_ #[t,t] ty #[u,v]).run P w= .ok (.int .i64 ((ys.take n).length:Nat)) w'/\Good B w g h w' g' h':=by
 obtain⟨d,it,G,ζ,eq⟩:=jy (jB x (by simp))
 rw[eq] at x
 cases d<;>try (cases x;done)
 injection x with x
 subst x
 rename_i e
 obtain⟨Q,e',xs,A,k,p1,p2,p3,p4⟩:=Yn M hp hu
 obtain⟨Y,k2,r1,r2,r3,r4⟩:=wB M _ hv z
 unfold vP at o
 rw[p1] at o
 simp only at o
 split at o
 ·rename_i hc
  obtain⟨c1,c2,c3⟩:=hc
  injection o with o
  subst o
  subst c1
  obtain⟨d',K,τ,J,S⟩:=jy ho
  have V:(zQ P Q).sz=K.size:=by rw[S]
  have c:(ys.take n).length=min ys.length n:=by rw[zJ,Nat.min_comm]
  have l:∀r∈ys.take n,r.length=e'/\r.all AV.one=true:=λr z=>by
   have:=qb.1 c3 r z
   simp only[zq,beq_iff_eq] at this
   exact⟨by rw[c2];exact this.1,this.2⟩
  by_cases E:(ys.take n).length=0
  ·have T:ys.take n=[]:=zF E
   have:kQ xs i (ys.take n)=xs:=by rw[T];simp[kQ]
   rw[this,qS p1]
   refine⟨w,g,?_,Good.refl M hB⟩
   subst p3
   subst r1
   have L:Nat.min ys.length n=0:=by rw[<-E,c]
   have N:=qta (P:=P) (w:=w) (sz:=K.size) (n:=0) (A:=Y) (m:=ys.length) (k:=k2) (vs:=[]) (by simp) (λ_=>rfl) (λ_ _ _ _ h=>by simp at h)
   rw[E]
   cases A<;>simp[Builtin.copy_,run_underlying G,Builtin.lenOf,sizeOf,typeInfo,J,L,N,goInt,storeCells]
  ·have R:0<n:=by
    rcases Nat.eq_zero_or_pos n with h|h
    ·subst h;simp at E
    ·exact h
   obtain⟨ad,m,cp,q1,q2⟩:=p4 R
   subst q2
   have p:ys≠[]:=λh=>by subst h;simp at E
   cases F:eOf h s with
   | none=>exact absurd (r4 F) p
   | some O=>
     have f:=r3 O F
     obtain⟨r0,H⟩:∃r,r∈ys.take n:=List.exists_mem_of_ne_nil _ (λh=>E (by rw[h];rfl))
     have W:O=e':=by rw[<-f.len r0 (List.mem_of_mem_take H)];exact(l r0 H).1
     subst W
     obtain⟨b,X⟩:∃b,Y=some b:=by
      cases C:ys with
      | nil=>exact absurd C p
      | cons q qs=>
        have Z:=f.len q (by rw[C];simp)
        obtain⟨b,u',z1,_⟩:=f.cell 0 0 q (nth q 0) (by rw[C];rfl) (Z1 (by omega))
        exact⟨b,z1⟩
     subst X
     have I:RowsAt w (ctx w g h) O (ys.take n) (some b):=⟨λr z=>(l r z).1,λj k r a D x=>by
      rw[qY] at D
      split at D
      ·exact f.cell j k r a D x
      ·cases D⟩
     obtain⟨news,n1,n2,n3,n4⟩:=qsa I λr z=>(l r z).2
     obtain⟨w',g',s1,s2⟩:=xEa (P:=P) (n:=n) M hB p1 (i:=i) (ys:=ys.take n) (by rw[c];omega) (λy hy=>(l y hy).1) q1 n4 n3
     refine⟨w',g',?_,s2⟩
     subst p3
     subst r1
     have L:Nat.min ys.length n=(ys.take n).length:=c.symm
     have U:O=K.size:=by rw[c2,V]
     have N:=qta (P:=P) (w:=w) (sz:=K.size) (n:=(ys.take n).length) (A:=some b) (m:=ys.length) (k:=k2) (vs:=news) (by rw[n1,U]) (λh=>by cases h) (λad h j u D=>by injection h with h;subst h;exact n2 j u D)
     obtain⟨q,Z⟩:∃q,(ys.take n).length=q:=⟨_,rfl⟩
     rw[Z] at L N⊢
     simp[Builtin.copy_,run_underlying G,Builtin.lenOf,sizeOf,typeInfo,J,L,N,s1,goInt]
 ·cases o
theorem Zwa(I:HOk B w g h)(hB:B<=w.heap.size)(D:wU (ctx w g h) T a){t e:TypeId}{X:Operand}{lo hi:Option Operand}{xs:List (List AV)}{l m:Int}(o:(zQ P t).kind= .slice e)(O:qa h (ev T X)=some xs)(i:Z3 T 0 lo=some l)(f:Z3 T xs.length hi=some m)
  (Q:(zQ P e).ok=true) (h0:0<=l) (h1:l<=m) (G:m<=xs.length) (u:l=m∨(0<(zQ P e).sz/\eOf h (ev T X)=some (zQ P e).sz)):DidV P (Instr.sliceAt t (a.eval X) (lo.map a.eval) (hi.map a.eval) none) B w g h (.vw (ev T X) (zQ P e).sz l.toNat (m.toNat - l.toNat)) h:=by
 obtain⟨d,it,z,M,eq⟩:=jy (jB o (by simp))
 rw[eq] at o
 cases d<;>try (cases o;done)
 injection o with o
 subst o
 rename_i e
 obtain⟨d',L,W,F,C⟩:=jy Q
 have H:=jV D X
 obtain⟨A,k,J,r2,V,Z⟩:=wB I _ H O
 have b:(match lo.map a.eval with|some v=>Instr.sliceBound v m.toNat .sliceB|none=>pure 0:Sem Nat).run P w= .ok l.toNat w:=by
  cases lo with
  | none=>injection i with i;subst i;rfl
  | some x=>
    simp only[Z3] at i
    split at i
    ·rename_i kk n r
     injection i with i
     subst i
     have:=Zm D r
     simp only[Option.map_some,this,Instr.sliceBound,asIntOf,Sem.run_bind,Sem.run_pure,Result.andThen_ok,if_pos (show 0<=n/\n<=(m.toNat:Int) by omega)]
    ·cases i
 have c:(match hi.map a.eval with|some v=>Instr.sliceBound v k .sliceAcap|none=>pure xs.length:Sem Nat).run P w= .ok m.toNat w:=by
  cases hi with
  | none=>injection f with f;subst f;simp
  | some x=>
    simp only[Z3] at f
    split at f
    ·rename_i kk n r
     injection f with f
     subst f
     have:=Zm D r
     simp only[Option.map_some,this,Instr.sliceBound,asIntOf,Sem.run_bind,Sem.run_pure,Result.andThen_ok,if_pos (show 0<=n/\n<=(k:Int) by omega)]
    ·cases f
 refine jM I hB (v:= .slice (if k=l.toNat then A else A.map (·.add (l.toNat*L.size))) (m.toNat - l.toNat) (k - l.toNat)) ?_ ?_
 ·have K:(Instr.sliceBounds true xs.length k (lo.map a.eval) (hi.map a.eval) none).run P w= .ok (l.toNat,m.toNat,k) w:=by
   unfold Instr.sliceBounds
   cases lo with
   | none=>cases hi with
     | none=>
       injection b with b
       injection c with c
       simp[b,c]
     | some x=>
       injection b with b
       simp only[Option.map_some] at c
       simp[b,c]
   | some y=>cases hi with
     | none=>
       injection c with c
       simp only[Option.map_some] at b
       simp[b,c]
     | some x=>
       simp only[Option.map_some] at b c
       simp[b,c]
  simp only[Instr.sliceAt,Sem.run_bind,run_underlying z,Result.andThen_ok,Instr.slice,J]
  simp only[Sem.run_bind,K,Result.andThen_ok,sizeOf,typeInfo,run_program]
  simp[F]
 ·refine⟨A,xs.length,k,_,_,by rw[<-J];exact H,by omega,by omega,rfl,λhn=>?_,λh0=>?_⟩
  rotate_left
  ·rw[h0]
   refine⟨?_,rfl⟩
   split
   ·exact .inl rfl
   ·exact .inr (by simp)
  have s:k≠l.toNat:=by omega
  rw[if_neg s]
  cases A with
  | some R=>exact⟨R,rfl,by rw[C];rfl⟩
  | none=>
    exfalso
    rcases u with he|⟨U,E⟩
    ·omega
    ·have p:=V _ E
     cases j:xs with
     | nil=>rw[j] at G;simp at G;omega
     | cons q qs=>
       have Y:=p.len q (by rw[j];simp)
       obtain⟨N,u',S,_⟩:=p.cell 0 0 q (nth q 0) (by rw[j];rfl) (Z1 (by omega))
       cases S
end
section
variable {B:Nat} {w:World} {g:Gh} {h h':List Ob} {P:Program} {x:AV} {T:Nat->AV} {a:Act} {kk:IntKind} {n:Int} {v:AV}
theorem xy:∀ {es:List (AV × AV)},vG kk es=true↔∀p∈es,p.1= .v (.int kk (vn p))
 | []=>by simp[vG]
 | p::r=>by
   have c:=xy (es:=r)
   constructor
   ·intro h q a
    unfold vG at h
    split at h
    ·rename_i heq;cases heq
    ·rename_i k m u d heq
     injection heq with b h2
     subst b h2
     simp only[zq,beq_iff_eq] at h
     rcases zx.1 a with rfl|a
     ·simp[vn,h.1]
     ·exact c.1 h.2 q a
    ·cases h
   ·intro h
    obtain⟨p1,p2⟩:=p
    have h0:p1=_:=h (p1,p2) (by simp)
    have b:=c.2 λq a=>h q (by simp[a])
    rw[h0]
    simp[vG,b]
theorem Wq{a b:List (AV × AV)}(d:a.Perm b)(h:vG kk b=true):vG kk a=true:=by
 rw[xy] at h⊢
 exact λp c=>h p (d.mem_iff.1 c)
theorem Kb:∀ {es:List (AV × AV)},kV n es=true↔∃p∈es,vn p=n
 | []=>by simp[kV]
 | p::r=>by simp[kV,Kb (es:=r)]
theorem yv:∀(es:List (AV × AV)),xD kk n v es=es.map λp=>if vn p=n then(.v (.int kk n),v) else p
 | []=>rfl
 | p::r=>by simp[xD,yv r]
theorem Z4:∀(es:List (AV × AV)),(xk kk n v es).Perm ((.v (.int kk n),v)::es)
 | []=> .refl _
 | p::r=>by
   unfold xk
   split
   ·exact .refl _
   ·exact((Z4 r).cons p).trans (.swap _ _ _)
theorem Wr{n n':Int}{v v':AV}(d:n≠n'):∀(es:List (AV × AV)),xk kk n v (xk kk n' v' es)=xk kk n' v' (xk kk n v es)
 | []=>by
   simp only[xk,vn]
   by_cases h:n<n'
   ·simp[h,show ¬ n'<n by omega]
   ·simp[h,show n'<n by omega]
 | p::r=>by
   have e:=Wr (v:=v) (v':=v') d r
   have k1:vn (.v (.int kk n),v)=n:=rfl
   have k2:vn (.v (.int kk n'),v')=n':=rfl
   by_cases b:n<vn p
   ·by_cases a:n'<vn p
    ·by_cases c:n<n'
     ·simp[xk,b,a,c,k1,k2,show ¬ n'<n by omega]
     ·simp[xk,b,a,c,k1,k2,show n'<n by omega]
    ·have c:n<n':=by omega
     simp[xk,b,a,k1,show ¬ n'<n by omega]
   ·by_cases a:n'<vn p
    ·have c:n'<n:=by omega
     simp[xk,b,a,k2,show ¬ n<n' by omega]
    ·simp[xk,b,a,e]
theorem vV{c:Ctx}:∀ {l:List (AV × AV)} {es:List MapEntry},MapRel c l es->l.length=es.length
 | [],es,h=>by have h:es=[]:=h;simp[h]
 | p::r,es,⟨e,q,b,_,_,a⟩=>by subst b;simp[vV a]
theorem vo{c:Ctx}:∀ {l:List (AV × AV)} {es:List MapEntry},MapRel c l es->∀(i:Nat) (p:AV × AV),l[i]? =some p->∃e,es[i]? =some e/\AR c p.1 e.key/\AR c p.2 e.val
 | q::r,es,⟨e,s,b,g,f,d⟩,0,p,a=>by injection a with a;subst a b;exact⟨e,rfl,g,f⟩
 | q::r,es,⟨e,s,b,g,f,d⟩,i+1,p,a=>by
   subst b
   exact vo d i p (by simpa using a)
theorem VE{c:Ctx}:∀ {l:List (AV × AV)} {es:List MapEntry},l.length=es.length->(∀(i:Nat) (p:AV × AV) (e:MapEntry),l[i]? =some p->es[i]? =some e->AR c p.1 e.key/\AR c p.2 e.val)->MapRel c l es
 | [],[],_,_=>rfl
 | [],_::_,h,_=>by cases h
 | _::_,[],h,_=>by cases h
 | p::l,e::es,d,h=>⟨e,es,rfl,(h 0 p e rfl rfl).1,(h 0 p e rfl rfl).2,VE (by simpa using d) λi p e b a=>h (i+1) p e (by simpa using b) (by simpa using a)⟩
theorem Kc{kk':IntKind}:∀(es:List MapEntry) (i:Nat),(∀e∈es,∃m,e.key= .int kk m)->(∀e∈es,e.key≠ .int kk n)/\Instr.findNow (.int kk') (.int kk n) es i=some none∨∃j e,es[j]? =some e/\e.key= .int kk n/\Instr.findNow (.int kk') (.int kk n) es i=some (some (i+j,e.val))
 | [],i,_=> .inl ⟨by simp,rfl⟩
 | e::es,i,l=>by
   obtain⟨m,c⟩:=l e (by simp)
   by_cases b:n=m
   ·subst b
    exact .inr ⟨0,e,rfl,c,by simp[Instr.findNow,c,Instr.sameNow]⟩
   ·have k:Instr.sameNow (.int kk') (.int kk n) e.key=some false:=by simp[c,Instr.sameNow,b]
    rcases Kc (kk':=kk') es (i+1) (λe p=>l e (by simp[p])) with⟨g,f⟩|⟨j,d,g,f,o⟩
    ·refine .inl ⟨λd a=>?_,by simp[Instr.findNow,k,f]⟩
     rcases zx.1 a with rfl|a
     ·rw[c];intro h;injection h with _ h;exact b h.symm
     ·exact g d a
    ·exact .inr ⟨j+1,d,by simpa using g,f,by simp[Instr.findNow,k,o];omega⟩
theorem qua{es:List MapEntry}(c:(es.map (·.key)).Nodup){i j:Nat}{e a:MapEntry}(hi:es[i]? =some e)(d:es[j]? =some a)(f:e.key=a.key):i=j:=by
 have b:(es.map (·.key))[i]? =some e.key:=by simp[hi]
 have h:(es.map (·.key))[j]? =some e.key:=by simp[d,f]
 have g:=(zd.1 b).1
 exact(List.getElem?_inj g c).1 (b.trans h.symm)
theorem xFa{c:Ctx}{l:List (AV × AV)}{es:List MapEntry}(d:MapRel c l es)(g:vG kk l=true):∀e∈es,∃m,e.key= .int kk m:=λe h=>by
 obtain⟨i,hi⟩:=List.mem_iff_getElem?.1 h
 have b:i<l.length:=by rw[vV d];exact(zd.1 hi).1
 obtain⟨j,a,f,_⟩:=vo d i _ (zj b)
 rw[hi] at a
 injection a with a
 subst a
 have:=xy.1 g l[i] (zy b)
 rw[this] at f
 exact⟨_,f⟩
theorem Yo{z:AV}:∀ {es:List (AV × AV)},(∀p∈es,vn p≠n)->Jy n z es=(z,false)
 | [],_=>rfl
 | p::r,h=>by
   have c:=Yo (z:=z) (es:=r) λq a=>h q (by simp[a])
   have b:=h p (by simp)
   simp[Jy,c,b]
theorem Yp{z:AV}:∀ {es:List (AV × AV)},(∃p∈es,vn p=n)->∃p∈es,vn p=n/\Jy n z es=(p.2,true)
 | [],h=>by simp at h
 | p::r,h=>by
   by_cases a:vn p=n
   ·exact⟨p,by simp,a,by simp[Jy,a]⟩
   ·obtain⟨q,b,c⟩:=h
    rcases zx.1 b with rfl|b
    ·exact absurd c a
    ·obtain⟨d,e,f,g⟩:=Yp (z:=z) (es:=r) ⟨q,b,c⟩
     exact⟨d,by simp[e],f,by simp[Jy,a,g]⟩
theorem Yq{c:Ctx}{K L mt:TypeId}{es:Array MapEntry}{k:Nat}{l l':List (AV × AV)}{b:Nat}{kk':IntKind}{z:Value}{C:AV}(U:P.underlying mt=some (.map K L))(D:P.underlying K=some (.int kk'))(N:w.heap[b]? =some (.map es k))(H:l'.Perm l)(A:MapRel c l' es.toList)(T:(es.toList.map (·.key)).Nodup)
  (m:vG kk l=true) (O:(zeroValue L).run P w= .ok z w) (F:AR c C z) (ok:Bool):
  ∃u,(Instr.lookup mt (.map (some b)) (.int kk n) ok).run P w= .ok u w/\AR c (if ok then .tup [(Jy n C l).1,.v (.bool (Jy n C l).2)] else(Jy n C l).1) u:=by
 have B:=Wq H m
 have S:∀ {β:Type} (f:Obj->Sem β),(Sem.getObj b f).run P w=(f (.map es k)).run P w:=λf=>by simp[Sem.run,N]
 have x:∀(r:Option (Nat × Value)) (q:Value) (t:Bool),Instr.findNow (.int kk') (.int kk n) es.toList 0=some r->(match r with|some (_,v)=>(pure (v,true):Sem (Value × Bool))|none=>do pure (<-zeroValue L,false)).run P w= .ok (q,t) w->
   (Instr.lookup mt (.map (some b)) (.int kk n) ok).run P w= .ok (if ok then .tuple #[q,.bool t] else q) w:=λr q t V o=>by
  have M:∀d,(Instr.checkKey es.isEmpty (d+1) K (.int kk n)).run P w= .ok () w:=λd=>by simp[Instr.checkKey,run_underlying D]
  have X:(getObj b).run P w= .ok (.map es k) w:=by simp[getObj,Sem.run,N]
  simp only[Instr.lookup,Sem.run_bind,run_underlying U,Result.andThen_ok,X,Sem.run_pure,M,Instr.findKey,run_underlying D,V]
  cases r with
  | some p=>obtain⟨i,v⟩:=p;simp only[Sem.run_pure] at o ⊢;injection o with o _;injection o with h s;subst h s;cases ok<;>simp
  | none=>simp only[Sem.run_bind,O,Result.andThen_ok,Sem.run_pure] at o ⊢;injection o with o _;injection o with h s;subst h s;cases ok<;>simp
 rcases Kc (kk':=kk') es.toList 0 (xFa A B) (n:=n) with⟨h,s⟩|⟨j,e,h,s,W⟩
 ·have J:∀p∈l,vn p≠n:=λp y e=>by
   obtain⟨i,hi⟩:=List.mem_iff_getElem?.1 (H.mem_iff.2 y)
   obtain⟨G,g,a,_⟩:=vo A i p hi
   have:=xy.1 m p y
   rw[this,e] at a
   exact h G (qq g) a
  refine⟨_,x none z false s (by simp[O]),?_⟩
  rw[Yo J]
  cases ok
  ·exact F
  ·exact⟨_,rfl,_,_,rfl,F,_,_,rfl,rfl,rfl⟩
 ·have E:j<l'.length:=by rw[vV A];exact(zd.1 h).1
  have hex:∃p∈l,vn p=n:=by
   obtain⟨G,g,a,_⟩:=vo A j _ (zj E)
   rw[h] at g
   injection g with g
   subst g
   have Q:=H.mem_iff.1 (zy E)
   have:=xy.1 m _ Q
   rw[this] at a
   have a:e.key= .int kk _:=a
   rw[s] at a
   injection a with _ a
   exact⟨_,Q,a.symm⟩
  obtain⟨p,p1,p2,Y⟩:=Yp (z:=C) hex
  obtain⟨i,hi⟩:=List.mem_iff_getElem?.1 (H.mem_iff.2 p1)
  obtain⟨G,g,a,R⟩:=vo A i p hi
  have:=xy.1 m p p1
  rw[this,p2] at a
  have a:G.key= .int kk n:=a
  have I:=qua T g h (a.trans s.symm)
  subst I
  rw[h] at g
  injection g with g
  subst g
  refine⟨_,x (some (0+i,e.val)) e.val true W (by simp),?_⟩
  rw[Y]
  cases ok
  ·exact R
  ·exact⟨_,rfl,_,_,rfl,R,_,_,rfl,rfl,rfl⟩
theorem vFa(W:HOk B w g h)(hB:B<=w.heap.size){X et mt:TypeId}{id:Nat}{l l2:List (AV × AV)}{kk':IntKind}{u:Value}(hu:P.underlying mt=some (.map X et))(G:P.underlying X=some (.int kk'))(S:h[id]? =some (.mapo l))(hv:AR (ctx w g h) v u)(x:JD kk n v l=some l2):
  ∃w',(Instr.mapUpdate mt (.map (some (g.β id))) (.int kk n) u).run P w= .ok () w'/\Good B w g h w' g (h.set id (.mapo l2)):=by
 obtain⟨h1,es,k,l',O,s,y,U⟩:=W.ok id _ S
 have O:w.heap[g.β id]? =some (.map es k):=O
 unfold JD at x
 split at x
 case isFalse=>cases x
 rename_i F
 injection x with x
 have C:=Wq s F
 have L:∀d,(Instr.checkKey false (d+1) X (.int kk n)).run P w= .ok () w:=λd=>by simp[Instr.checkKey,run_underlying G]
 have hg:(getObj (g.β id)).run P w= .ok (.map es k) w:=by simp[getObj,Sem.run,O]
 have A:∀o,(setObj (g.β id) o).run P w= .ok () { w with heap:=w.heap.setIfInBounds (g.β id) o }:=λo=>by simp[setObj,Sem.run,O]
 rcases Kc (kk':=kk') es.toList 0 (xFa y C) (n:=n) with⟨D,E⟩|⟨j,e,D,E,f3⟩
 ·have V:kV n l=false:=by
   rw[jz]
   intro hc
   obtain⟨p,H,e⟩:=Kb.1 hc
   obtain⟨i,hi⟩:=List.mem_iff_getElem?.1 (s.mem_iff.2 H)
   obtain⟨Q,r,f,_⟩:=vo y i p hi
   have:=xy.1 F p H
   rw[this,e] at f
   exact D Q (qq r) f
  rw[V] at x
  simp only[Bool.false_eq_true,if_false] at x
  subst x
  refine⟨_,?_,xsa W hB S (es':=es.push { key:= .int kk n,val:=u,born:=k }) (k':=k+1) (l2:=l'++[(.v (.int kk n),v)]) ?_ ?_ ?_⟩
  ·simp only[Instr.mapUpdate,Sem.run_bind,run_underlying hu,Result.andThen_ok,hg,L,Instr.findKey,run_underlying G,E,Sem.run_pure,A]
  ·refine(List.perm_append_comm).trans (List.Perm.trans ?_ (Z4 l).symm)
   exact s.cons _
  ·rw[Array.toList_push]
   refine VE (by simp[vV y]) λi p e s m=>?_
   by_cases hi:i<l'.length
   ·rw[zO hi] at s
    rw[zO (by rw[<-vV y];exact hi)] at m
    obtain⟨Q,r,f,R⟩:=vo y i p s
    rw[m] at r;injection r with r;subst r
    exact⟨f,R⟩
   ·have hl:=vV y
    rw[zX (by omega)] at s m
    rw[<-hl] at m
    have h0:i - l'.length=0:=by
     have:=(zd.1 s).1
     simp at this;omega
    rw[h0] at s m
    injection s with s;injection m with m
    subst s m
    exact⟨rfl,hv⟩
  ·rw[Array.toList_push,zw,List.nodup_append]
   refine⟨U,by simp,λa ha b hb=>?_⟩
   simp at hb
   obtain⟨e,m,rfl⟩:=zr.1 ha
   rw[hb]
   exact D e m
 ·have J:j<l'.length:=by rw[vV y];exact(zd.1 D).1
  have K:kV n l=true:=by
   rw[Kb]
   obtain⟨Q,r,f,_⟩:=vo y j _ (zj J)
   rw[D] at r
   injection r with r
   subst r
   have hm:=s.mem_iff.1 (zy J)
   have:=xy.1 F _ hm
   rw[this] at f
   have f:e.key= .int kk _:=f
   rw[E] at f
   injection f with _ f
   exact⟨_,hm,f.symm⟩
  rw[K] at x
  simp only[if_true] at x
  subst x
  have M:es[j]? =some e:=by simpa using D
  refine⟨_,?_,xsa W hB S (es':=es.modify j λe=>{ e with key:= .int kk n,val:=u }) (k':=k) (l2:=xD kk n v l') ?_ ?_ ?_⟩
  ·have Z:(Instr.keyThatStays e.key (.int kk n)).run P w= .ok (.int kk n) w:=by simp[Instr.keyThatStays,E,Instr.sameBits]
   rw[Nat.zero_add] at f3
   simp only[Instr.mapUpdate,Sem.run_bind,run_underlying hu,Result.andThen_ok,hg,L,Instr.findKey,run_underlying G,f3,Sem.run_pure,M,Option.map_some,Option.getD_some,Z,A]
  ·rw[yv,yv]
   exact s.map _
  ·refine VE (by simp[yv,vV y]) λi p Q c m=>?_
   rw[yv,zz] at c
   cases z:l'[i]? with
   | none=>rw[z] at c;cases c
   | some q=>
     rw[z] at c
     injection c with c
     obtain⟨e2,r,f,R⟩:=vo y i q z
     have I:=xy.1 C q (qq z)
     rw[I] at f
     have f:e2.key= .int kk (vn q):=f
     rw[qC,Array.getElem?_modify] at m
     have T:es[i]? =some e2:=by simpa using r
     rw[T] at m
     by_cases N:vn q=n
     ·rw[N] at f
      have t:=qua U r D (f.trans E.symm)
      subst t
      have c:(if vn q=n then((.v (.int kk n),v):AV × AV) else q)=p:=c
      rw[if_pos N] at c
      subst c
      simp only[if_true,Option.map_some] at m
      injection m with m
      subst m
      exact⟨rfl,hv⟩
     ·have t:j≠i:=λY=>by
       subst Y
       rw[D] at r
       injection r with r
       subst r
       rw[E] at f
       injection f with _ f
       exact N f.symm
      have c:(if vn q=n then((.v (.int kk n),v):AV × AV) else q)=p:=c
      rw[if_neg N] at c
      subst c
      rw[if_neg t] at m
      injection m with m
      subst m
      exact⟨by rw[I];exact f,R⟩
  ·have:(es.modify j λe=>{ e with key:= .int kk n,val:=u }).toList.map (·.key)=es.toList.map (·.key):=by
    apply qX
    intro i
    rw[zz,zz,qC,Array.getElem?_modify,qC]
    by_cases t:j=i
    ·subst t;rw[M];simp[E]
    ·rw[if_neg t]
   rw[this]
   exact U
theorem Jra{c:Ctx}{t:TypeId}{z:AV}(b:yka (zQ P t)=some z):∃u,(zeroValue t).run P w= .ok u w/\AR c z u:=by
 unfold yka at b
 split at b
 ·rename_i g
  cases a:(zQ P t).zero with
  | none=>rw[a] at b;cases b
  | some j=>
    rw[a] at b
    simp only[Option.bind_some] at b
    obtain⟨d,i,k,hi,e⟩:=jy (jya a)
    rw[e] at a g
    cases f:i.zero with
    | none=>rw[f] at a;cases a
    | some v=>
      rw[f] at a g
      injection a with a
      have h:v.cells= #[v]:=by
       have g:v.oneCell'=true:=g
       cases v<;>first|rfl|cases g
      have a:v.cells.toList=j:=a
      rw[h] at a
      subst a
      injection b with b
      subst b
      exact⟨v,Yl hi f,rfl⟩
 ·cases b
theorem xGa{c:Ctx}{t:TypeId}(r:(zQ P t).ok=true){cs:List AV}{vs:Array Value}(l:ARs c cs vs.toList){k:Nat}{x:AV}(a:part cs k (zQ P t).agg (zQ P t).sz=some x):∃u,(_root_.Go.part t vs k).run P w= .ok u w/\AR c x u:=by
 obtain⟨d,i,q,hi,e⟩:=jy r
 rw[e] at a
 have f:(isAgg t).run P w= .ok (yia d) w:=by
  simp only[isAgg,Sem.run_bind,run_underlying q,Result.andThen_ok]
  cases d<;>rfl
 simp only[part] at a
 split at a
 ·rename_i j
  cases b:cut cs k i.size with
  | none=>rw[b] at a;cases a
  | some rs=>
    rw[b] at a
    injection a with a
    subst a
    obtain⟨n,p,v⟩:=jta l k _ b
    refine⟨.agg (vs.extract k (k+i.size)),?_,_,rfl,?_⟩
    ·have h:k+i.size<=vs.size:=by simpa using p
     simp[_root_.Go.part,f,j,sizeOf,typeInfo,hi,h]
    ·simpa [Array.toList_extract,List.extract_eq_take_drop] using n
 ·rename_i j
  split at a
  ·rename_i m
   injection a with a
   subst a
   obtain⟨u,s,o⟩:=yQ l k m
   refine⟨u,?_,o⟩
   have g:vs[k]? =some u:=by simpa using s
   simp[_root_.Go.part,f,j,g]
  ·cases a
end
section
variable {B:Nat} {w:World} {g:Gh} {h h':List Ob} {P:Program} {x:AV} {T:Nat->AV} {a:Act}
theorem qva:∀ {rows:List (List AV)} {l:List UInt8},xua rows=some l->∃ns:List Int,rows=ns.map (λn=>[AV.v (.int .u8 n)])/\l=ns.map λn=>UInt8.ofNat n.toNat
 | [],l,h=>by
   injection h with h
   exact⟨[],rfl,h.symm⟩
 | r::rows,l,h=>by
   unfold xua at h
   split at h
   ·rename_i e;cases e
   ·rename_i n d e
    injection e with e1 e2
    subst e2
    cases a:xua rows with
    | none=>rw[a] at h;cases h
    | some l'=>
      rw[a] at h
      injection h with h
      obtain⟨ns,b,c⟩:=qva a
      exact⟨n::ns,by rw[e1,b];rfl,by rw[<-h,c];rfl⟩
   ·cases h
theorem Zxa(l:List Int):∀s:ByteArray,l.foldl (λr n=>r.push (UInt8.ofNat n.toNat)) s=⟨s.data++(l.map λn=>UInt8.ofNat n.toNat).toArray⟩:=by
 induction l with
 | nil=>intro s;simp
 | cons x l a=>
   intro s
   simp only[List.map_cons,List.foldl_cons]
   rw[a]
   simp[ByteArray.push]
theorem Jsa(V:HOk B w g h){s d:TypeId}{rows:List (List AV)}{v:Value}{z:AV}(X:AR (ctx w g h) (.sl 1 rows) v)(N:(zQ P s).ok=true)(y:(zQ P d).kind= .str)(b:Joa P s rows=some z):
  ∃u,(convert s d v).run P w= .ok u w/\AR (ctx w g h) z u:=by
 obtain⟨A,k,R,h2,p,_⟩:=wB V (.sl 1 rows) X rfl
 have p:=p 1 rfl
 unfold Joa at b
 split at b
 ·rename_i e o
  split at b
  ·rename_i a
   cases q:xua rows with
   | none=>rw[q] at b;cases b
   | some l=>
     rw[q] at b
     injection b with b
     subst b
     obtain⟨T,i1,E,Y,x⟩:=jy N
     obtain⟨Z,i2,F,S,J⟩:=jy (jB y (by simp))
     obtain⟨U,i3,H,O,K⟩:=jy (jB a (by simp))
     rw[x] at o
     rw[J] at y
     rw[K] at a
     cases T<;>try (cases o;done)
     cases Z<;>try (cases y;done)
     cases U<;>try (cases a;done)
     injection o with o
     injection a with a
     subst o;subst a
     obtain⟨ns,t,G⟩:=qva q
     refine⟨.string ⟨l.toArray⟩,?_,rfl⟩
     have W:∀i,A=some i->∀j u,(ns.map (Value.int .u8))[j]? =some u->w.cell? (i.add j)=some u:=λi Q j u f=>by
      rw[zz] at f
      cases D:ns[j]? with
      | none=>rw[D] at f;cases f
      | some n=>
        rw[D] at f
        injection f with f
        subst f
        obtain⟨C,L,m,M,r⟩:=p.cell j 0 [.v (.int .u8 n)] (.v (.int .u8 n)) (by rw[t,zz,D];rfl) rfl
        rw[Q] at m
        injection m with m
        subst m
        rw[Nat.mul_one,Nat.add_zero] at M
        have r:L= .int .u8 n:=r
        rw[M,r]
     have I:rows.length=ns.length:=by rw[t,zb]
     rw[R,run_convert_bytes_string w s d _ A rows.length k E H F]
     cases A with
     | none=>
       have h0:ns=[]:=by
        cases ns with
        | nil=>rfl
        | cons n ns=>
          obtain⟨C,L,m,_⟩:=p.cell 0 0 [.v (.int .u8 n)] (.v (.int .u8 n)) (by rw[t];rfl) rfl
          cases m
       rw[h0] at I G
       rw[I,G]
       rfl
     | some i=>
       have c:=run_loadCells_list (P:=P) w i (ns.map (Value.int .u8)) (W i rfl)
       rw[zb] at c
       rw[I,run_bytesToString w i ns.length k ns c,Zxa,G]
       simp
  ·cases b
 ·cases b
theorem yoa{c:Ctx}:∀ {aZ:List AV} {y:AV} {vs:List Value} {v:Value},ARs c aZ vs->AR c y v->∀ {r:AV},xva y aZ=some r->∃u,(vs.foldlM Builtin.max2 v).run P w= .ok u w/\AR c r u
 | [],y,vs,v,e,a,r,h=>by
   have e:vs=[]:=e
   subst e
   have h:some y=some r:=by rw[<-h];unfold xva;rfl
   injection h with h;subst h
   exact⟨v,rfl,a⟩
 | z::aZ,y,vs,v,⟨u,q,i,b,d⟩,a,r,h=>by
   subst i
   unfold xva at h
   split at h
   ·rename_i heq;cases heq
   ·rename_i k p k' n j heq
    injection heq with h4 h5
    subst h4 h5
    have a:v= .int k p:=a
    have b:u= .int k' n:=b
    subst a b
    obtain⟨u,g,f⟩:=yoa (y:= .v (.int k (if n>p then n else p))) d rfl h
    exact⟨u,by simpa [List.foldlM_cons,Builtin.max2] using g,f⟩
   ·cases h
theorem ypa{c:Ctx}:∀ {aZ:List AV} {y:AV} {vs:List Value} {v:Value},ARs c aZ vs->AR c y v->∀ {r:AV},xwa y aZ=some r->∃u,(vs.foldlM Builtin.min2 v).run P w= .ok u w/\AR c r u
 | [],y,vs,v,e,a,r,h=>by
   have e:vs=[]:=e
   subst e
   have h:some y=some r:=by rw[<-h];unfold xwa;rfl
   injection h with h;subst h
   exact⟨v,rfl,a⟩
 | z::aZ,y,vs,v,⟨u,q,i,b,d⟩,a,r,h=>by
   subst i
   unfold xwa at h
   split at h
   ·rename_i heq;cases heq
   ·rename_i k p k' n j heq
    injection heq with h4 h5
    subst h4 h5
    have a:v= .int k p:=a
    have b:u= .int k' n:=b
    subst a b
    obtain⟨u,g,f⟩:=ypa (y:= .v (.int k (if n<p then n else p))) d rfl h
    exact⟨u,by simpa [List.foldlM_cons,Builtin.min2] using g,f⟩
   ·cases h
theorem Jta(F:HOk B w g h)(hB:B<=w.heap.size)(o:wU (ctx w g h) T a){c:Call}{ty:TypeId}(f:Qu P T h c=some (x,h')):
  Did P (do let d<-resolve a.eval c ty;invoke d.target d.args) B w g h x h':=by
 obtain⟨callee,args,argTypes⟩:=c
 obtain⟨args⟩:=args
 obtain⟨argTypes⟩:=argTypes
 unfold Qu at f
 split at f
 ·rename_i X t l b j
  simp only at l b j
  subst l b j
  split at f
  ·rename_i e s
   cases m:qa h (ev T X) with
   | none=>rw[m] at f;cases f
   | some xs=>
     rw[m] at f
     injection f with f
     injection f with hx1 hx2
     subst hx1 hx2
     obtain⟨d,i,U,N,eq⟩:=jy (jB s (by simp))
     rw[eq] at s
     cases d<;>try (cases s;done)
     obtain⟨A,k,p,C,_,_⟩:=wB F _ (jV o X) m
     refine⟨.value (.int .i64 xs.length),_,w,g,?_,.inl rfl,Good.refl F hB,rfl⟩
     simp[resolve,invoke,builtin,Builtin.len_,p,run_underlying U,goInt]
  ·cases f
 ·rename_i S X t W l b j
  simp only at l b j
  subst l b j
  split at f
  ·rename_i e s
   split at f
   ·rename_i J
    subst J
    obtain⟨v,w',g',Q,K,V⟩:=vEa (ty:=ty) F hB (jV o S) (jV o X) s f
    refine⟨.value v,v,w',g',?_,.inl rfl,K,V⟩
    simp[resolve,invoke,builtin,Q]
   ·cases f
  ·cases f
 ·rename_i X t l b j
  simp only at l b j
  subst l b j
  split at f
  ·rename_i e s
   cases G:vm h (ev T X) with
   | none=>rw[G] at f;cases f
   | some q=>
     obtain⟨id,st,i,n⟩:=q
     rw[G] at f
     simp only[Option.bind_some] at f
     cases I:(zQ P e).zero with
     | none=>rw[I] at f;cases f
     | some z=>
       rw[I] at f
       simp only[Option.bind_some] at f
       split at f
       ·rename_i H
        cases m:vP h id i e (zQ P e).sz (List.replicate n (z.map .v)) with
        | none=>rw[m] at f;cases f
        | some K=>
          rw[m] at f
          injection f with f
          injection f with hx1 hx2
          subst hx1 hx2
          obtain⟨w',g',p,C⟩:=Zva (P:=P) (ty:=ty) F hB (jV o X) s G I H.1 H.2 m
          refine⟨.value (.tuple #[]),.tuple #[],w',g',?_,.inl rfl,C,⟨_,rfl,rfl⟩⟩
          simp[resolve,invoke,builtin,p]
       ·cases f
  ·cases f
 ·rename_i D X t W l b j
  simp only at l b j
  subst l b j
  split at f
  ·rename_i e s
   split at f
   ·rename_i H
    obtain⟨J,R,O⟩:=H
    subst J
    cases G:vm h (ev T D) with
    | none=>rw[G] at f;cases f
    | some q=>
      obtain⟨id,st,i,n⟩:=q
      rw[G] at f
      simp only[Option.bind_some] at f
      cases L:qa h (ev T X) with
      | none=>rw[L] at f;cases f
      | some ys=>
        rw[L] at f
        simp only[Option.bind_some] at f
        cases m:vP h id i e (zQ P e).sz (ys.take n) with
        | none=>rw[m] at f;cases f
        | some K=>
          rw[m] at f
          injection f with f
          injection f with hx1 hx2
          subst hx1 hx2
          obtain⟨w',g',p,C⟩:=Jqa (P:=P) (ty:=ty) F hB (jV o D) (jV o X) s G L R O m
          refine⟨.value (.int .i64 ((ys.take n).length:Nat)),_,w',g',?_,.inl rfl,C,rfl⟩
          simp only[resolve,invoke,builtin]
          simp[p]
   ·cases f
  ·cases f
 ·rename_i M X r l b
  simp only at l b
  subst l b
  cases E:xva (ev T X) (evl T r) with
  | none=>rw[E] at f;cases f
  | some y=>
    rw[E] at f
    injection f with f
    injection f with hx1 hx2
    subst hx1 hx2
    obtain⟨u,p,C⟩:=yoa (P:=P) (w:=w) (X9 o r) (jV o X) E
    refine⟨.value u,u,w,g,?_,.inl rfl,Good.refl F hB,C⟩
    simp[resolve,invoke,builtin,Builtin.max_,p]
 ·rename_i M X r l b
  simp only at l b
  subst l b
  cases E:xwa (ev T X) (evl T r) with
  | none=>rw[E] at f;cases f
  | some y=>
    rw[E] at f
    injection f with f
    injection f with hx1 hx2
    subst hx1 hx2
    obtain⟨u,p,C⟩:=ypa (P:=P) (w:=w) (X9 o r) (jV o X) E
    refine⟨.value u,u,w,g,?_,.inl rfl,Good.refl F hB,C⟩
    simp[resolve,invoke,builtin,Builtin.min_,p]
 ·cases f
theorem DidV.of{s:Sem Value}{t:Sem Next}(d:DidV P s B w g h x h')(e:t=(do pure (.value (<-s)))):Did P t B w g h x h':=e▸d.did
theorem jO{s:Sem Next}{v:Value}(c:HOk B w g h)(hB:B<=w.heap.size)(b:s.run P w= .ok (.value v) w)(a:AR (ctx w g h) x v):Did P s B w g h x h:=
 ⟨.value v,v,w,g,b,.inl rfl,Good.refl c hB,a⟩
theorem jAa(G:HOk B w g h)(hB:B<=w.heap.size)(H:wU (ctx w g h) T a)(o:Oper)(C:qh P T h o.op=some (x,h')):Did P (execOp a.eval o) B w g h x h':=by
 obtain⟨dst,op,type,pos,after,guard⟩:=o
 simp only at C
 have alloc:(jG P T op).map (λq=>(q.2 h.length,h++[q.1]))=some (x,h')->Did P (execOp a.eval ⟨dst,op,type,pos,after,guard⟩) B w g h x h':=λC=>by
  cases ha:jG P T op with
  | none=>rw[ha] at C;cases C
  | some q=>
    obtain⟨o,mk⟩:=q
    rw[ha] at C
    injection C with C
    injection C with hx1 hx2
    subst hx1 hx2
    obtain⟨v,w',V,m⟩:=Ym G hB H ha dst type pos after guard
    obtain⟨g',e2,e3⟩:=m.more G hB
    exact⟨.value v,v,w',g',V,.inl rfl,e2,e3⟩
 unfold qh at C
 split at C
 case h_1 y=>
  injection C with C;injection C with hx1 hx2;subst hx1 hx2
  exact jO G hB (by simp[execOp]) (jV H y)
 case h_2 y=>
  injection C with C;injection C with hx1 hx2;subst hx1 hx2
  exact jO G hB (by simp[execOp]) (jV H y)
 case h_3 c y z=>
  split at C
  ·rename_i t K
   injection C with C;injection C with hx1 hx2;subst hx1 hx2
   have e:=Zm H K
   cases t
   ·exact jO G hB (v:=a.eval z) (by simp[execOp,e,asBool]) (jV H z)
   ·exact jO G hB (v:=a.eval y) (by simp[execOp,e,asBool]) (jV H y)
  ·cases C
 case h_4 t=>exact alloc C
 case h_5 t y=>exact alloc C
 case h_6 t n ps=>exact alloc C
 case h_7 t l c=>exact alloc C
 case h_8 t r=>exact alloc C
 case h_9 t ps=>
  split at C
  ·rename_i fs D
   split at C
   ·rename_i M
    cases hz:(zQ P t).zero with
    | none=>rw[hz] at C;cases C
    | some z=>
      rw[hz] at C
      simp only[Option.bind_some] at C
      cases K:yR (X7 P fs) (z.map .v) (evs T ps.toList) with
      | none=>rw[K] at C;cases C
      | some cs=>
        rw[K] at C
        injection C with C;injection C with hx1 hx2;subst hx1 hx2
        exact(Zta G hB H D M hz K).of rfl
   ·cases C
  ·rename_i m e D
   split at C
   ·rename_i M
    cases hz:(zQ P t).zero with
    | none=>rw[hz] at C;cases C
    | some z=>
      rw[hz] at C
      simp only[Option.bind_some] at C
      cases K:yR (Zz (zQ P e).sz) (z.map .v) (evs T ps.toList) with
      | none=>rw[K] at C;cases C
      | some cs=>
        rw[K] at C
        injection C with C;injection C with hx1 hx2;subst hx1 hx2
        exact(z9a G hB H D M hz K).of rfl
   ·cases C
  ·cases C
 case h_10 t p=>
  cases Q:Jx h (zQ P t) (ev T p) with
  | none=>rw[Q] at C;cases C
  | some y=>
    rw[Q] at C
    injection C with C;injection C with hx1 hx2;subst hx1 hx2
    exact(xBa G hB (jV H p) Q).of rfl
 case h_11 t p y=>
  split at C
  ·rename_i ht
   cases K:(ev T y).cells with
   | none=>rw[K] at C;cases C
   | some ns=>
     rw[K] at C
     simp only[Option.bind_some] at C
     split at C
     ·rename_i Q
      cases hs:ZA h ns (ev T p) with
      | none=>rw[hs] at C;cases C
      | some h2=>
        rw[hs] at C
        injection C with C;injection C with hx1 hx2;subst hx1 hx2
        obtain⟨w',g',V,e2⟩:=Zua G hB (jV H p) (jV H y) ht K Q hs
        exact⟨.skip,undef,w',g',by simp[execOp,V],.inr ⟨rfl,rfl⟩,e2,rfl⟩
     ·cases C
  ·cases C
 case h_12 y=>
  have E:=jV H y
  split at C
  ·rename_i id off J
   injection C with C;injection C with hx1 hx2;subst hx1 hx2
   rw[J] at E
   obtain⟨q,e⟩:=E
   exact jO G hB (v:=a.eval y) (by simp[execOp,e]) ⟨q,e⟩
  ·rename_i c e i k J
   injection C with C;injection C with hx1 hx2;subst hx1 hx2
   rw[J] at E
   obtain⟨A,m,cp,q1,q2,e⟩:=E
   exact jO G hB (v:=a.eval y) (by simp[execOp,e]) ⟨A,m,cp,q1,q2,e⟩
  ·rename_i f p q J
   injection C with C;injection C with hx1 hx2;subst hx1 hx2
   rw[J] at E
   obtain⟨us,vs,e,q⟩:=E
   exact jO G hB (v:=a.eval y) (by simp[execOp,e]) ⟨us,vs,e,q⟩
  ·cases C
 case h_13 op t y z _=>
  split at C
  ·rename_i hn
   cases hb:xxa P h op t (ev T y) with
   | none=>rw[hb] at C;cases C
   | some r=>
     rw[hb] at C
     injection C with C;injection C with hx1 hx2;subst hx1 hx2
     exact(Vha G hB H hn hb).of rfl
  ·cases hb:Jna P op t (ev T y) (ev T z) with
   | none=>rw[hb] at C;cases C
   | some r=>
     rw[hb] at C
     injection C with C;injection C with hx1 hx2;subst hx1 hx2
     exact(Vga G hB H hb).of rfl
 case h_14 op _ y=>
  split at C
  ·rename_i k n J
   injection C with C;injection C with hx1 hx2;subst hx1 hx2
   have e:=Zm H J
   exact jO G hB (by simp[execOp,e,Op.unary,Op.intArith]) rfl
  ·rename_i b J
   injection C with C;injection C with hx1 hx2;subst hx1 hx2
   have e:=Zm H J
   exact jO G hB (by simp[execOp,e,Op.unary]) rfl
  ·cases C
 case h_15 s d y=>
  split at C
  ·rename_i k k' n hs hd J
   injection C with C;injection C with hx1 hx2;subst hx1 hx2
   have e:=Zm H J
   obtain⟨d1,i1,hu1,hi1,eq1⟩:=jy hs
   obtain⟨d2,Y,O,N,I⟩:=jy (jB hd (by simp))
   rw[I] at hd
   cases d2<;>try (cases hd;done)
   injection hd with hd
   subst hd
   refine jO G hB (v:= .int _ (IntKind.wrap _ n)) ?_ rfl
   simp[execOp,e,convert,run_underlying hu1,run_underlying O,Conv.intToInt]
  ·rename_i rows hs hd J
   cases ν:Joa P s rows with
   | none=>rw[ν] at C;cases C
   | some z=>
     rw[ν] at C
     injection C with C;injection C with hx1 hx2;subst hx1 hx2
     have E:=jV H y
     rw[J] at E
     obtain⟨u,hr,eu⟩:=Jsa G E hs hd ν
     exact jO G hB (v:=u) (by simp[execOp,hr]) eu
  ·cases C
 case h_16 f p q=>
  injection C with C;injection C with hx1 hx2;subst hx1 hx2
  refine jO G hB (v:= .func f (p.map a.eval) (q.map a.eval)) (by simp[execOp,Instr.makeFunc]) ⟨_,_,rfl,?_,?_⟩
  ·simpa using X9 H p.toList
  ·simpa using X9 H q.toList
 case h_17 t y i=>
  have E:=jV H y
  split at C
  ·rename_i fs D
   cases M:fs[i]? with
   | none=>rw[M] at C;cases C
   | some f=>
     rw[M] at C
     simp only[Option.bind_some] at C
     split at C
     ·rename_i K
      obtain⟨d,ii,S,X,eq⟩:=jy (jB D (by simp))
      rw[eq] at D
      cases d<;>try (cases D;done)
      rename_i fields
      injection D with D
      obtain⟨d2,Y,O,N,I⟩:=jy K.1
      have ζ:Y.size≠0:=by have:=K.2;rw[I] at this;simp at this;omega
      rw[<-D,zz] at M
      cases R:fields.toList[i]? with
      | none=>rw[R] at M;cases M
      | some F=>
        rw[R] at M
        injection M with M
        subst M
        have W:fields[i]? =some F:=by simpa using R
        split at C
        ·rename_i id off J
         injection C with C;injection C with hx1 hx2;subst hx1 hx2
         rw[J] at E
         obtain⟨q,e⟩:=E
         refine jO G hB (v:= .pointer (some ⟨g.β id,off+F.offset,none⟩)) ?_ ⟨q,rfl⟩
         simp[execOp,e,Instr.fieldAt,run_underlying S,W,Instr.sureAddr,fieldPlace,sizeOf,typeInfo,N,ζ,Addr.add_lit,ctx]
        ·rename_i c e' j k J
         injection C with C;injection C with hx1 hx2;subst hx1 hx2
         rw[J] at E
         obtain⟨A,m,cp,q1,q2,e⟩:=E
         refine jO G hB (v:= .pointer (some (A.add (j*e'+(k+F.offset))))) ?_ ⟨A,m,cp,q1,q2,rfl⟩
         simp[execOp,e,Instr.fieldAt,run_underlying S,W,Instr.sureAddr,fieldPlace,sizeOf,typeInfo,N,ζ,Addr.add_add,Nat.add_assoc]
        ·cases C
     ·cases C
  ·cases C
 case h_19 t y i=>
  have E:=jV H y
  split at C
  ·rename_i e k n D J
   split at C
   ·rename_i K
    have V:=Zm H J
    obtain⟨d,ii,S,X,eq⟩:=jy (jB D (by simp))
    rw[eq] at D
    cases d<;>try (cases D;done)
    injection D with D
    subst D
    obtain⟨d2,Y,O,N,I⟩:=jy K.1
    cases L:vAa h n (ev T y) with
    | none=>rw[L] at C;cases C
    | some z=>
      rw[L] at C
      injection C with C;injection C with hx1 hx2;subst hx1 hx2
      unfold vAa at L
      cases hr:qa h (ev T y) with
      | none=>rw[hr] at L;cases L
      | some xs=>
        rw[hr,K.2.2] at L
        simp only[Option.bind_some] at L
        split at L
        ·rename_i hn
         injection L with L
         subst L
         obtain⟨A,cp,q1,q2,q3,_⟩:=wB G _ E hr
         have hra:=q3 _ K.2.2
         have τ:n.toNat<xs.length:=by omega
         have hA:∃ad,A=some ad:=by
          have hrow:xs[n.toNat]? =some xs[n.toNat]:=zj τ
          have h0:=K.2.1
          have Q:=hra.len _ (zy τ)
          obtain⟨ad,u,z1,_⟩:=hra.cell _ 0 _ (nth xs[n.toNat] 0) hrow (Z1 (by omega))
          exact⟨ad,z1⟩
         obtain⟨ad,rfl⟩:=hA
         refine jO G hB (v:= .pointer (some (ad.add (n.toNat*Y.size)))) ?_ ⟨ad,xs.length,cp,by rw[<-q1];exact E,τ,by rw[I,Nat.add_zero]⟩
         simp[execOp,V,q1,Instr.indexAt,asIntOf,run_underlying S,sizeOf,typeInfo,N,hn.1,hn.2]
        ·cases L
   ·cases C
  ·rename_i m e k n D J
   split at C
   ·rename_i K
    obtain⟨c1,c2,c3⟩:=K
    have V:=Zm H J
    obtain⟨d,ii,S,X,eq⟩:=jy (jB D (by simp))
    rw[eq] at D
    cases d<;>try (cases D;done)
    injection D with hk1 hk2
    subst hk1 hk2
    obtain⟨d2,Y,O,N,I⟩:=jy c1
    split at C
    ·rename_i id off ξ
     injection C with C;injection C with hx1 hx2;subst hx1 hx2
     rw[ξ] at E
     obtain⟨q,e⟩:=E
     refine jO G hB (v:= .pointer (some ⟨g.β id,off+n.toNat*Y.size,none⟩)) ?_ ⟨q,by rw[I];rfl⟩
     simp[execOp,V,e,Instr.indexAt,asIntOf,run_underlying S,Instr.sureAddr,sizeOf,typeInfo,N,c2,c3,Addr.add_lit,ctx]
    ·rename_i c e' j k2 ξ
     injection C with C;injection C with hx1 hx2;subst hx1 hx2
     rw[ξ] at E
     obtain⟨A,m',cp,q1,q2,e⟩:=E
     refine jO G hB (v:= .pointer (some (A.add (j*e'+(k2+n.toNat*Y.size))))) ?_ ⟨A,m',cp,q1,q2,by rw[I]⟩
     simp[execOp,V,e,Instr.indexAt,asIntOf,run_underlying S,Instr.sureAddr,sizeOf,typeInfo,N,c2,c3,Addr.add_add,Nat.add_assoc]
    ·cases C
   ·cases C
  ·cases C
 case h_18 t y i=>
  have E:=jV H y
  split at C
  ·rename_i fs cs D J
   cases M:fs[i]? with
   | none=>rw[M] at C;cases C
   | some f=>
     rw[M] at C
     simp only[Option.bind_some] at C
     split at C
     ·rename_i ho
      obtain⟨d,ii,S,X,eq⟩:=jy (jB D (by simp))
      rw[eq] at D
      cases d<;>try (cases D;done)
      rename_i fields
      injection D with D
      rw[<-D,zz] at M
      cases R:fields.toList[i]? with
      | none=>rw[R] at M;cases M
      | some F=>
        rw[R] at M
        injection M with M
        subst M
        have W:fields[i]? =some F:=by simpa using R
        rw[J] at E
        obtain⟨vs,e,q⟩:=E
        cases hp:part cs F.offset (zQ P F.type).agg (zQ P F.type).sz with
        | none=>rw[hp] at C;cases C
        | some r=>
          rw[hp] at C
          injection C with C;injection C with hx1 hx2;subst hx1 hx2
          obtain⟨u,z1,z2⟩:=xGa (P:=P) (w:=w) ho q hp
          exact jO G hB (v:=u) (by simp[execOp,e,Instr.field,run_underlying S,W,asAgg,z1]) z2
     ·cases C
  ·cases C
 case h_20 t y i=>
  have E:=jV H y
  split at C
  ·rename_i m e cs k n D J hi
   split at C
   ·rename_i K
    obtain⟨c1,c2,c3⟩:=K
    have V:=Zm H hi
    obtain⟨d,ii,S,X,eq⟩:=jy (jB D (by simp))
    rw[eq] at D
    cases d<;>try (cases D;done)
    injection D with hk1 hk2
    subst hk1 hk2
    rename_i m e
    obtain⟨d2,Y,O,N,I⟩:=jy c1
    rw[J] at E
    obtain⟨vs,ee,q⟩:=E
    cases hp:part cs (n.toNat*(zQ P e).sz) (zQ P e).agg (zQ P e).sz with
    | none=>rw[hp] at C;cases C
    | some r=>
      rw[hp] at C
      injection C with C;injection C with hx1 hx2;subst hx1 hx2
      obtain⟨u,z1,z2⟩:=xGa (P:=P) (w:=w) c1 q hp
      have ζ:(zQ P e).sz=Y.size:=by rw[I]
      rw[ζ] at z1
      exact jO G hB (v:=u) (by simp[execOp,V,ee,Instr.index,asIntOf,run_underlying S,sizeOf,typeInfo,N,c2,c3,z1]) z2
   ·cases C
  ·cases C
 case h_21 t y lo hi=>
  split at C
  ·rename_i e D
   cases hr:qa h (ev T y) with
   | none=>rw[hr] at C;cases C
   | some xs=>
     rw[hr] at C
     simp only[Option.bind_some] at C
     cases Q:Z3 T 0 lo with
     | none=>rw[Q] at C;cases C
     | some l=>
       rw[Q] at C
       simp only[Option.bind_some] at C
       cases hm:Z3 T xs.length hi with
       | none=>rw[hm] at C;cases C
       | some m=>
         rw[hm] at C
         simp only[Option.bind_some] at C
         split at C
         ·rename_i K
          obtain⟨c1,c2,c3,c4,c5⟩:=K
          injection C with C;injection C with hx1 hx2;subst hx1 hx2
          exact(Zwa G hB H D hr Q hm c1 c2 c3 c4 c5).of rfl
         ·cases C
  ·cases C
 case h_22 t m k v=>
  split at C
  ·rename_i kt et id kk n D hm Z
   split at C
   ·rename_i kk' es U ho
    split at C
    ·rename_i heq
     subst heq
     cases hi:JD kk' n (ev T v) es with
     | none=>rw[hi] at C;cases C
     | some es'=>
       rw[hi] at C
       injection C with C;injection C with hx1 hx2;subst hx1 hx2
       obtain⟨d,ii,S,X,eq⟩:=jy (jB D (by simp))
       rw[eq] at D
       cases d<;>try (cases D;done)
       injection D with hk1 hk2
       subst hk1 hk2
       obtain⟨d2,Y,O,hin2,I⟩:=jy (jB U (by simp))
       rw[I] at U
       cases d2<;>try (cases U;done)
       have V:=Zm H Z
       have E:=jV H m
       rw[hm] at E
       obtain⟨q,e2⟩:=E
       obtain⟨w',r1,r2⟩:=vFa (P:=P) G hB S O ho (jV H v) hi
       refine⟨.skip,undef,w',g,?_,.inr ⟨rfl,rfl⟩,r2,rfl⟩
       simp only[execOp,V,e2]
       have e3:(ctx w g h).β id=g.β id:=rfl
       rw[e3,Sem.run_bind,r1]
       rfl
    ·cases C
   ·cases C
  ·cases C
 case h_23 t m k ok=>
  split at C
  ·rename_i kt et id kk n D hm Z
   split at C
   ·rename_i kk' es z U ho hz
    split at C
    ·rename_i heq
     subst heq
     cases Q:xya kk' n z es with
     | none=>rw[Q] at C;cases C
     | some p=>
       rw[Q] at C
       injection C with C;injection C with hx1 hx2;subst hx1 hx2
       unfold xya at Q
       split at Q
       ·rename_i hko
        injection Q with Q
        subst Q
        obtain⟨d,ii,S,X,eq⟩:=jy (jB D (by simp))
        rw[eq] at D
        cases d<;>try (cases D;done)
        injection D with hk1 hk2
        subst hk1 hk2
        obtain⟨d2,Y,O,hin2,I⟩:=jy (jB U (by simp))
        rw[I] at U
        cases d2<;>try (cases U;done)
        have V:=Zm H Z
        have E:=jV H m
        rw[hm] at E
        obtain⟨q,e2⟩:=E
        obtain⟨zu,z1,z2⟩:=Jra (P:=P) (w:=w) (c:=ctx w g h) hz
        obtain⟨p1,es0,k0,l',p2,p3,p4,p5⟩:=G.ok id _ ho
        obtain⟨u,u1,u2⟩:=Yq (P:=P) (n:=n) (ok:=ok) S O p2 p3 p4 p5 hko z1 z2
        refine jO G hB (v:=u) ?_ u2
        simp only[execOp,V,e2,Sem.run_bind,u1]
        rfl
       ·cases Q
    ·cases C
   ·cases C
  ·cases C
 case h_24 y i=>
  have E:=jV H y
  split at C
  ·rename_i cs J
   split at C
   ·rename_i hi
    injection C with C;injection C with hx1 hx2;subst hx1 hx2
    rw[J] at E
    obtain⟨vs,e,q⟩:=E
    obtain⟨u,q1,q2⟩:=yQ q i hi
    have q1':vs[i]? =some u:=by simpa using q1
    exact jO G hB (v:=u) (by simp[execOp,e,Instr.extract,q1']) q2
   ·cases C
  ·cases C
 case h_25 c=>exact Jta G hB H C
 case h_26=>cases C
end
section
variable {φ:Nat->Ob} {h h':List Ob} {P:Program} {x:AV} {T:Nat->AV} {i:Nat} {o:Ob}
theorem ZB:∀(a:AV) {e:Nat},eOf h a=some e->eOf (fill φ h) a=some e
 | .sl _ _,_,b=>b
 | .tl id st,e,b=>by
   simp only[eOf] at b⊢
   split at b
   ·rename_i ty f ys s d
    rw[qL d rfl]
    exact b
   ·cases b
 | .vw a g i n,e,b=>by
   simp only[eOf] at b⊢
   cases c:eOf h a with
   | none=>rw[c] at b;cases b
   | some j=>rw[c] at b;rw[ZB a c];exact b
 | .v _,_,b | .em,_,b | .ptr _ _,_,b | .ep _ _ _ _,_,b | .mp _,_,b | .ag _,_,b | .tup _,_,b | .fn _ _ _,_,b | .bad,_,b=>by cases b
theorem kr:∀(a:AV) {xs:List (List AV)},qa h a=some xs->qa (fill φ h) a=some xs
 | .sl _ _,_,b=>b
 | .em,_,b=>b
 | .tl id st,xs,b=>by
   simp only[qa] at b⊢
   split at b
   ·rename_i ty g ys s f
    rw[qL f rfl]
    exact b
   ·cases b
 | .vw a e i n,xs,b=>by
   simp only[qa] at b⊢
   cases c:qa h a with
   | none=>rw[c] at b;cases b
   | some ys=>
     rw[c] at b
     rw[kr a c]
     simp only[Option.bind_some] at b⊢
     split at b
     ·rename_i d
      rw[if_pos ⟨d.1,d.2.imp id (ZB a)⟩]
      exact b
     ·cases b
 | .v x,xs,b=>by
   unfold qa at b⊢
   split at b
   ·rename_i heq;cases heq
   ·rename_i heq;cases heq
   ·rename_i heq;cases heq
   ·rename_i heq;cases heq;exact b
   ·rename_i heq;cases heq
   ·cases b
 | .ptr _ _,_,b | .ep _ _ _ _,_,b | .mp _,_,b | .ag _,_,b | .tup _,_,b | .fn _ _ _,_,b | .bad,_,b=>by cases b
theorem xHa(a:AV)(b:X8 h a=true):X8 (fill φ h) a=true:=by
 unfold X8 at b⊢
 rw[Bool.or_eq_true] at b⊢
 refine b.imp id λb=>?_
 cases c:qa h a with
 | none=>rw[c] at b;cases b
 | some xs=>cases d:eOf h a with
   | none=>rw[c,d] at b;cases xs<;>cases b
   | some e=>rw[c,d] at b;rw[kr a c,ZB a d];exact b
theorem Zya{op:BinOp}{t:TypeId}(a:AV)(b:xxa P h op t a=some x):xxa P (fill φ h) op t a=some x:=by
 unfold xxa at b⊢
 cases e:(zQ P t).kind<;>rw[e] at b<;>first
  | cases b;done
  | skip
 simp only at b⊢
 cases d:xZ a with
 | true=>rw[d] at b;exact b
 | false=>
   rw[d] at b
   simp only[Bool.false_eq_true,if_false] at b⊢
   split at b
   ·rename_i c
    rw[if_pos (xHa _ c)];exact b
   ·cases b
theorem Yr{τ:Ty}:∀(a:AV),Jx h τ a=some x->Jx (fill φ h) τ a=some x
 | .ptr id off,b=>by
   simp only[Jx] at b⊢
   split at b
   ·rename_i f
    simp only[qL f rfl]
    exact b
   ·cases b
 | .ep a e i k,b=>by
   simp only[Jx] at b⊢
   split at b
   ·rename_i d
    rw[if_pos ⟨d.1,ZB _ d.2⟩]
    cases c:qa h a with
    | none=>rw[c] at b;cases b
    | some xs=>rw[c] at b;rw[kr _ c];exact b
   ·cases b
 | .sl _ _,b | .tl _ _,b | .em,b | .vw _ _ _ _,b | .v _,b | .mp _,b | .ag _,b | .tup _,b | .fn _ _ _,b | .bad,b=>by cases b
theorem Zza{n:Int}(a:AV)(b:vAa h n a=some x):vAa (fill φ h) n a=some x:=by
 unfold vAa at b⊢
 cases d:qa h a with
 | none=>rw[d] at b;cases b
 | some xs=>
   rw[d] at b
   cases c:eOf h a with
   | none=>rw[c] at b;cases b
   | some e=>rw[c] at b;rw[kr a d,ZB a c];exact b
theorem xIa{ns:List AV}:∀(a:AV),ZA h ns a=some h'->ZA (fill φ h) ns a=some (fill φ h')/\ResK h h'
 | .ptr id off,b=>by
   simp only[ZA] at b⊢
   split at b
   ·rename_i ty cs c
    simp only[qL c rfl]
    cases d:lay cs off ns with
    | none=>rw[d] at b;cases b
    | some cs'=>
      rw[d] at b
      injection b with b
      subst b
      exact⟨by rw[jj rfl];rfl,qi c rfl⟩
   ·cases b
 | .ep (.tl id st) e i k,b=>by
   simp only[ZA] at b⊢
   split at b
   ·rename_i ty j xs s c
    simp only[qL c rfl]
    split at b
    ·rename_i f
     rw[if_pos f]
     cases hi:xs[i]? with
     | none=>rw[hi] at b;cases b
     | some r=>
       rw[hi] at b
       simp only[Option.bind_some] at b⊢
       cases d:lay r k ns with
       | none=>rw[d] at b;cases b
       | some g=>
         rw[d] at b
         injection b with b
         subst b
         exact⟨by rw[jj rfl];rfl,qi c rfl⟩
    ·cases b
   ·cases b
 | .ep (.sl _ _) _ _ _,b | .ep .em _ _ _,b | .ep (.vw _ _ _ _) _ _ _,b | .ep (.v _) _ _ _,b | .ep (.ptr _ _) _ _ _,b | .ep (.ep _ _ _ _) _ _ _,b | .ep (.mp _) _ _ _,b | .ep (.ag _) _ _ _,b | .ep (.tup _) _ _ _,b | .ep (.fn _ _ _) _ _ _,b | .ep .bad _ _ _,b=>by cases b
 | .sl _ _,b | .tl _ _,b | .em,b | .vw _ _ _ _,b | .v _,b | .mp _,b | .ag _,b | .tup _,b | .fn _ _ _,b | .bad,b=>by cases b
theorem jBa(g:Upto φ h.length){e:TypeId}(s y:AV)(a:QY P h e s y=some (x,h')):QY P (fill φ h) e s y=some (x,fill φ h')/\ResK h h':=by
 unfold QY at a⊢
 cases c:qa h y with
 | none=>simp[c] at a
 | some ys=>
   rw[kr y c]
   simp only[c,Option.bind_some] at a⊢
   split at a
   ·rename_i f
    rw[if_pos f]
    split at a
    ·split at a
     ·rename_i id st ty i xs s d
      simp only[qL d rfl]
      split at a
      ·rename_i b
       rw[if_pos b]
       injection a with a
       injection a with h1 h2
       subst h1 h2
       exact⟨by rw[jj rfl],qi d rfl⟩
      ·cases a
     ·cases a
    ·split at a
     ·rename_i b
      simp only[if_pos b]
      injection a with a
      injection a with h1 h2
      subst h1 h2
      exact⟨by rw[jW g,jo],resK_app⟩
     ·cases a
    ·cases a
   ·cases a
theorem KP{q:Nat × Nat × Nat × Nat}:∀(y:AV),vm h y=some q->vm (fill φ h) y=some q
 | .tl id st,a=>by
   simp only[vm] at a⊢
   split at a
   ·rename_i b;simp only[qL b rfl];exact a
   ·cases a
 | .vw (.tl id st) e i n,a=>by
   simp only[vm] at a⊢
   split at a
   ·rename_i b;simp only[qL b rfl];exact a
   ·cases a
 | .vw (.sl _ _) _ _ _,a | .vw .em _ _ _,a | .vw (.vw _ _ _ _) _ _ _,a | .vw (.v _) _ _ _,a | .vw (.ptr _ _) _ _ _,a | .vw (.ep _ _ _ _) _ _ _,a | .vw (.mp _) _ _ _,a | .vw (.ag _) _ _ _,a | .vw (.tup _) _ _ _,a | .vw (.fn _ _ _) _ _ _,a | .vw .bad _ _ _,a=>by cases a
 | .sl _ _,a | .em,a | .ptr _ _,a | .ep _ _ _ _,a | .v _,a | .mp _,a | .ag _,a | .tup _,a | .fn _ _ _,a | .bad,a=>by cases a
theorem KQ{id i ty e:Nat}{ys:List (List AV)}(a:vP h id i ty e ys=some h'):vP (fill φ h) id i ty e ys=some (fill φ h')/\ResK h h':=by
 unfold vP at a⊢
 split at a
 ·rename_i b
  simp only[qL b rfl]
  split at a
  ·rename_i c
   rw[if_pos c]
   injection a with a
   subst a
   exact⟨by rw[jj rfl],qi b rfl⟩
  ·cases a
 ·cases a
theorem vGa(r:Upto φ h.length)(c:Call)(a:Qu P T h c=some (x,h')):Qu P T (fill φ h) c=some (x,fill φ h')/\ResK h h':=by
 unfold Qu at a⊢
 split at a
 ·split at a
  ·rename_i e g
   cases b:qa h (ev T _) with
   | none=>rw[b] at a;cases a
   | some xs=>
     rw[b] at a
     injection a with a;injection a with h1 d;subst h1 d
     simp only[g,kr _ b]
     exact⟨rfl,.refl⟩
  ·cases a
 ·split at a
  ·rename_i e g
   split at a
   ·rename_i s
    simp only[g,if_pos s]
    exact jBa r _ _ a
   ·cases a
  ·cases a
 ·split at a
  ·rename_i e g
   cases f:vm h (ev T _) with
   | none=>rw[f] at a;cases a
   | some q=>
     obtain⟨id,st,i,n⟩:=q
     rw[f] at a
     simp only[Option.bind_some] at a
     cases k:(zQ P e).zero with
     | none=>rw[k] at a;cases a
     | some z=>
       rw[k] at a
       simp only[Option.bind_some] at a
       split at a
       ·rename_i l
        cases b:vP h id i e (zQ P e).sz (List.replicate n (z.map .v)) with
        | none=>rw[b] at a;cases a
        | some d=>
          rw[b] at a
          injection a with a;injection a with h1 d;subst h1 d
          obtain⟨p,m⟩:=KQ (φ:=φ) b
          simp only[g,KP _ f,Option.bind_some,k,if_pos l,p]
          exact⟨rfl,m⟩
       ·cases a
  ·cases a
 ·split at a
  ·rename_i e g
   split at a
   ·rename_i l
    cases f:vm h (ev T _) with
    | none=>rw[f] at a;cases a
    | some q=>
      obtain⟨id,st,i,n⟩:=q
      rw[f] at a
      simp only[Option.bind_some] at a
      cases o:qa h (ev T _) with
      | none=>rw[o] at a;cases a
      | some ys=>
        rw[o] at a
        simp only[Option.bind_some] at a
        cases b:vP h id i e (zQ P e).sz (ys.take n) with
        | none=>rw[b] at a;cases a
        | some d=>
          rw[b] at a
          injection a with a;injection a with h1 d;subst h1 d
          obtain⟨p,m⟩:=KQ (φ:=φ) b
          simp only[g,if_pos l,KP _ f,Option.bind_some,kr _ o,p]
          exact⟨rfl,m⟩
   ·cases a
  ·cases a
 ·cases j:xva _ _ with
  | none=>rw[j] at a;cases a
  | some y=>
    rw[j] at a
    injection a with a;injection a with h1 d;subst h1 d
    exact⟨rfl,.refl⟩
 ·cases j:xwa _ _ with
  | none=>rw[j] at a;cases a
  | some y=>
    rw[j] at a
    injection a with a;injection a with h1 d;subst h1 d
    exact⟨rfl,.refl⟩
 ·cases a
theorem xJa{op:Op}{mk:Nat->AV}(a:jG P T op=some (o,mk)):o.isRes=false:=by
 unfold jG at a
 repeat' split at a
 all_goals first
  | cases a;done
  | (simp only[Option.map_eq_some_iff,Prod.mk.injEq] at a;obtain⟨_,_,rfl,_⟩:=a;rfl)
  | (injection a with a;injection a with h1 h2;subst h1;rfl)
theorem xO{α:Type}{y:Option α}{f:α->AV}(b:(y.map λa=>(f a,h))=some (x,h')):∃a,y=some a/\f a=x/\h=h':=by
 cases y with
 | none=>cases b
 | some a=>injection b with b;injection b with h1 h2;exact⟨a,rfl,h1,h2⟩
theorem Z5(J:Upto φ h.length)(op:Op)(b:qh P T h op=some (x,h')):qh P T (fill φ h) op=some (x,fill φ h')/\ResK h h':=by
 have alloc:∀s,(jG P T s).map (λq=>(q.2 h.length,h++[q.1]))=some (x,h')->(jG P T s).map (λq=>(q.2 (fill φ h).length,fill φ h++[q.1]))=some (x,fill φ h')/\ResK h h':=λs b=>by
  cases I:jG P T s with
  | none=>rw[I] at b;cases b
  | some q=>
    rw[I] at b
    injection b with b;injection b with g d;subst g d
    exact⟨by rw[jW J,jo];rfl,resK_app⟩
 have same:∀ {y:AV},some (y,h)=some (x,h')->some (y,fill φ h)=some (x,fill φ h')/\ResK h h':=λe=>by
  injection e with e;injection e with g d;subst g d;exact⟨rfl,.refl⟩
 cases op with
 | move y=>exact same b
 | assign y=>exact same b
 | makeFunc f p q=>exact same b
 | alloc t=>exact alloc _ b
 | box t y=>exact alloc _ b
 | buildSlice t n E=>exact alloc _ b
 | makeSlice t l c=>exact alloc _ b
 | makeMap t r=>exact alloc _ b
 | call c=>exact vGa J c b
 | load t y=>
   obtain⟨a,g,d,o⟩:=xO b
   subst d o
   exact⟨by simp only[qh,Yr _ g];rfl,.refl⟩
 | store t y z=>
   simp only[qh] at b⊢
   split at b
   ·rename_i L
    cases j:(ev T z).cells with
    | none=>rw[j] at b;cases b
    | some ns=>
      rw[j] at b
      simp only[Option.bind_some] at b
      split at b
      ·rename_i A
       cases C:ZA h ns (ev T y) with
       | none=>rw[C] at b;cases b
       | some d=>
         rw[C] at b
         injection b with b;injection b with g d;subst g d
         obtain⟨M,O⟩:=xIa (φ:=φ) _ C
         exact⟨by simp only[if_pos L,j,Option.bind_some,if_pos A,M];rfl,O⟩
      ·cases b
   ·cases b
 | binOp op t y z u=>
   simp only[qh] at b⊢
   split at b
   ·rename_i G
    obtain⟨a,g,d,o⟩:=xO b
    subst d o
    exact⟨by simp only[if_pos G,Zya _ g];rfl,.refl⟩
   ·rename_i G
    obtain⟨a,g,d,o⟩:=xO b
    subst d o
    exact⟨by simp only[if_neg G,g];rfl,.refl⟩
 | indexAddr t y z=>
   simp only[qh] at b⊢
   split at b
   ·split at b
    ·rename_i j
     obtain⟨a,g,d,o⟩:=xO b
     subst d o
     exact⟨by simp only[if_pos (show _/\_/\_ from⟨j.1,j.2.1,ZB (φ:=φ) _ j.2.2⟩),Zza _ g];rfl,.refl⟩
    ·cases b
   ·split at b
    ·rename_i j
     simp only[if_pos j]
     split at b
     ·exact same b
     ·exact same b
     ·cases b
    ·cases b
   ·cases b
 | slice t y lo hi N=>
   cases N with
   | some m=>cases b
   | none=>
     simp only[qh] at b⊢
     split at b
     ·rename_i e Q
      cases D:qa h (ev T y) with
      | none=>rw[D] at b;cases b
      | some xs=>
        rw[D] at b
        simp only[kr _ D,Option.bind_some] at b⊢
        cases A:Z3 T 0 lo with
        | none=>rw[A] at b;cases b
        | some l=>
          rw[A] at b
          simp only[Option.bind_some] at b⊢
          cases H:Z3 T xs.length hi with
          | none=>rw[H] at b;cases b
          | some m=>
            rw[H] at b
            simp only[Option.bind_some] at b⊢
            split at b
            ·rename_i j
             rw[if_pos ⟨j.1,j.2.1,j.2.2.1,j.2.2.2.1,j.2.2.2.2.imp id λk=>⟨k.1,ZB _ k.2⟩⟩]
             exact same b
            ·cases b
     ·cases b
 | insert t m k v=>
   simp only[qh] at b⊢
   split at b
   ·split at b
    ·rename_i kk' es w B
     simp only[qL B rfl]
     split at b
     ·rename_i heq
      simp only[w,if_pos heq]
      cases hi:JD _ _ (ev T v) es with
      | none=>rw[hi] at b;cases b
      | some es'=>
        rw[hi] at b
        injection b with b;injection b with g d;subst g d
        exact⟨by rw[jj rfl];rfl,qi B rfl⟩
     ·cases b
    ·cases b
   ·cases b
 | lookup t m k ok=>
   simp only[qh] at b⊢
   split at b
   ·split at b
    ·rename_i kk' es z w B K
     simp only[qL B rfl,K]
     split at b
     ·rename_i heq
      simp only[w,if_pos heq]
      cases A:xya _ _ z es with
      | none=>rw[A] at b;cases b
      | some p=>
        rw[A] at b
        exact same b
     ·cases b
    ·cases b
   ·cases b
 | build t E=>
   have h0:∀h,qh P T h (.build t E)=(qh P T [] (.build t E)).map λq=>(q.1,h):=λh=>by
    simp only[qh]
    split
    ·split
     ·cases (zQ P t).zero with
      | none=>rfl
      | some z=>simp only[Option.bind_some];cases yR _ _ _<;>rfl
     ·rfl
    ·split
     ·cases (zQ P t).zero with
      | none=>rfl
      | some z=>simp only[Option.bind_some];cases yR _ _ _<;>rfl
     ·rfl
    ·rfl
   rw[h0] at b⊢
   obtain⟨a,g,d,o⟩:=xO b
   subst d o
   exact⟨by rw[g];rfl,.refl⟩
 | fieldAddr t y i=>
   have h0:∀h,qh P T h (.fieldAddr t y i)=(qh P T [] (.fieldAddr t y i)).map λq=>(q.1,h):=λh=>by
    simp only[qh]
    split
    ·rename_i F _
     cases F[i]? with
     | none=>rfl
     | some f=>
       simp only[Option.bind_some]
       split
       ·split<;>rfl
       ·rfl
    ·rfl
   rw[h0] at b⊢
   obtain⟨a,g,d,o⟩:=xO b
   subst d o
   exact⟨by rw[g];rfl,.refl⟩
 | field t y i=>
   have h0:∀h,qh P T h (.field t y i)=(qh P T [] (.field t y i)).map λq=>(q.1,h):=λh=>by
    simp only[qh]
    split
    ·rename_i F _ _ _
     cases F[i]? with
     | none=>rfl
     | some f=>
       simp only[Option.bind_some]
       split
       ·cases part _ _ _ _<;>rfl
       ·rfl
    ·rfl
   rw[h0] at b⊢
   obtain⟨a,g,d,o⟩:=xO b
   subst d o
   exact⟨by rw[g];rfl,.refl⟩
 | _=>
   simp only[qh] at b⊢
   try cases b
   all_goals (repeat' split at b)
   all_goals first
    | cases b;done
    | exact same b
    | (obtain⟨a,g,d,o⟩:=xO b;subst d o;exact⟨by simp only[g];rfl,.refl⟩)
    | (rename_i j;rw[if_pos j];exact same b)
    | (rename_i j;rw[if_neg j];exact same b)
    | (rename_i j;rw[if_pos j];obtain⟨a,g,d,o⟩:=xO b;subst d o;exact⟨by simp only[g];rfl,.refl⟩)
end
