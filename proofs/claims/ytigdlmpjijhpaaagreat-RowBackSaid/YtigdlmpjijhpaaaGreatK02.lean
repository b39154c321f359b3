import Derived.Test.YtigdlmpjijhpaaaGreatKA
import Derived.Test.YtigdlmpjijhpaaaGreatK01
import Derived.Laws.Pointers
import Derived.WalkSpells
import Derived.ChangeKeysEq
import Derived.Laws.BytesString
import Derived.Laws.Cells
set_option linter.all false
namespace Go.Proofs.YtigdlmpjijhpaaaGreat.Ax
open Go Go.RowKit
section
variable {B:Nat} {w:World} {g:Gh} {h h':List Ob} {P:Program} {x:AV} {T:Nat->AV} {a:Act}
theorem Xi(d:Nat):∀(l:List Field) (o:Nat) (xs ys:List AV) (us vs:List Value) (U V:Array Value) (r:Bool),
  wt P o (l.map λf=>(f.offset,f.type))=true->(l.all λf=>f.name != "_")=true->xs.length=l.length->xQ xs ys=some r->ARs (ctx w g h) xs us->ARs (ctx w g h) ys vs->
  (∀j,us[j]? =U[o+j]?)->(∀j,vs[j]? =V[o+j]?)->(Op.eqFields (d+1) U V l).run P w= .ok r w
 | [],o,xs,ys,us,vs,U,V,r,_,_,s,a,_,_,_,_=>by
   have:xs=[]:=zz s
   subst this
   cases ys with
   | nil=>injection a with a;subst a;simp[Op.eqFields]
   | cons y ys=>cases a
 | f::l,o,xs,ys,us,vs,U,V,r,hi,F,s,a,N,S,J,L=>by
   cases xs with
   | nil=>cases s
   | cons x xs=>
     cases ys with
     | nil=> cases x<;>try (cases a;done)
             rename_i v;cases v<;>cases a
     | cons y ys=>
       cases x<;>try (cases a;done)
       rename_i x
       cases x<;>try (cases a;done)
       rename_i k m
       cases y<;>try (cases a;done)
       rename_i y
       cases y<;>try (cases a;done)
       rename_i k' t
       simp only[xQ] at a
       split at a
       ·rename_i Q
        subst Q
        cases E:xQ xs ys with
        | none=>rw[E] at a;cases a
        | some W=>
          rw[E] at a
          injection a with a
          obtain⟨u,H,C,e,z⟩:=N
          obtain⟨v,vs',D,c,B⟩:=S
          have e:u= .int k m:=e
          have c:v= .int k t:=c
          subst e c C D
          simp only[List.map_cons,wt,zj,beq_iff_eq] at hi
          obtain⟨⟨K,n⟩,hi⟩:=hi
          simp only[List.all_cons,zj] at F
          cases b:(zE P f.type).kind<;>rw[b] at n<;>try (cases n;done)
          rename_i kk
          obtain⟨T,ii,i,O,eq⟩:=jj (jl b (by simp))
          rw[eq] at b
          cases T<;>try (cases b;done)
          rename_i k2
          have p:=J 0
          have q:=L 0
          simp only[List.getElem?_cons_zero,Nat.add_zero] at p q
          have A:(_root_.Go.part f.type U f.offset).run P w= .ok (.int k m) w:=by
           simp[Go.part,isAgg,run_underlying i,K, <-p]
          have I:(_root_.Go.part f.type V f.offset).run P w= .ok (.int k t) w:=by
           simp[Go.part,isAgg,run_underlying i,K, <-q]
          have M:=Xi d l (o+1) xs ys H vs' U V W hi F.2 (by simpa using s) E z B
           (λj=>by have:=J (j+1);rw[show o+1+j=o+(j+1) by omega];simpa using this) (λj=>by have:=L (j+1);rw[show o+1+j=o+(j+1) by omega];simpa using this)
          have G:f.name≠ "_" :=by simpa using F.1
          simp only[Op.eqFields,G,ne_eq,not_false_eq_true,if_true,Sem.run_bind,A,I,Result.andThen_ok,run_equalIn_int w d f.type k k2 m t i,Sem.run_ite,Sem.run_pure,M]
          cases R:(m==t)<;>simp[<-a,R]
       ·cases a
theorem Ys(o:wK (ctx w g h) T a){t:TypeId}{X Y:Operand}{xs ys:List AV}{l:List (Nat × TypeId)}{b:Bool}(s:ev T X= .ag xs)(p:ev T Y= .ag ys)(c:(zE P t).kind= .struct l)(e:j9 P t=true)(hi:wt P 0 l=true)(u:xs.length=l.length)(r:xQ xs ys=some b):
  ∃U V,a.eval X= .agg U/\a.eval Y= .agg V/\(Op.equalIn 10000 t (.agg U) (.agg V)).run P w= .ok b w/\P.eqGuardType P.depth t=false:=by
 have k:=jC o X
 have f:=jC o Y
 rw[s] at k
 rw[p] at f
 obtain⟨U,v,k⟩:=k
 obtain⟨V,q,f⟩:=f
 obtain⟨d,i,n,x,eq⟩:=jj (jl c (by simp))
 rw[eq] at c
 cases d<;>try (cases c;done)
 rename_i fields
 injection c with c
 simp only[j9,zj,Bool.not_eq_true'] at e
 have m:P.fieldsOf t=fields:=by simp[Program.fieldsOf,n]
 rw[m] at e
 refine⟨U,V,v,q,?_,e.1.1⟩
 rw[run_equalIn_struct (P:=P) w 9999 t U V (by rw[m];exact n) e.1.2,m]
 exact Xi (g:=g) (h:=h) 9998 fields.toList 0 xs ys U.toList V.toList U V b (by rw[<-c] at hi;exact hi) e.2 (by rw[u, <-c];simp) r k f (λj=>by simp) (λj=>by simp)
theorem Kx(d:Nat){e:TypeId}{k2:IntKind}(b:P.underlying e=some (.int k2)):∀(xs ys:List AV) (o:Nat) (us vs:List Value) (U V:Array Value) (r:Bool),xQ xs ys=some r->ARs (ctx w g h) xs us->ARs (ctx w g h) ys vs->(∀j,us[j]? =U[o+j]?)->(∀j,vs[j]? =V[o+j]?)->
  (Op.eqItems (d+1) e 1 U V (List.range' o xs.length)).run P w= .ok r w
 | [],ys,o,us,vs,U,V,r,a,F,G,t,D=>by
   cases ys with
   | nil=>injection a with a;subst a;rfl
   | cons y ys=>cases a
 | x::xs,ys,o,us,vs,U,V,r,a,F,G,t,D=>by
   cases ys with
   | nil=> cases x<;>try (cases a;done)
           rename_i v;cases v<;>cases a
   | cons y ys=>
     cases x<;>try (cases a;done)
     rename_i x
     cases x<;>try (cases a;done)
     rename_i k m
     cases y<;>try (cases a;done)
     rename_i y
     cases y<;>try (cases a;done)
     rename_i k' n
     simp only[xQ] at a
     split at a
     ·rename_i I
      subst I
      cases B:xQ xs ys with
      | none=>rw[B] at a;cases a
      | some K=>
        rw[B] at a
        injection a with a
        obtain⟨u,C,z,f,p⟩:=F
        obtain⟨v,vs',A,c,s⟩:=G
        have f:u= .int k m:=f
        have c:v= .int k n:=c
        subst f c z A
        have i:=t 0
        have l:=D 0
        simp only[List.getElem?_cons_zero,Nat.add_zero] at i l
        have q:(_root_.Go.part e U (o*1)).run P w= .ok (.int k m) w:=by
         simp[Go.part,isAgg,run_underlying b, <-i]
        have E:(_root_.Go.part e V (o*1)).run P w= .ok (.int k n) w:=by
         simp[Go.part,isAgg,run_underlying b, <-l]
        have H:=Kx d b xs ys (o+1) C vs' U V K B p s
         (λj=>by have:=t (j+1);rw[show o+1+j=o+(j+1) by omega];simpa using this) (λj=>by have:=D (j+1);rw[show o+1+j=o+(j+1) by omega];simpa using this)
        rw[List.length_cons,List.range'_succ]
        simp only[Op.eqItems,Sem.run_bind,q,E,Result.andThen_ok,run_equalIn_int w d e k k2 m n b,Sem.run_ite,Sem.run_pure,H]
        cases J:(m==n)<;>simp[<-a,J]
     ·cases a
theorem X1a(v:wK (ctx w g h) T a){t e:TypeId}{n:Nat}{X Y:Operand}{xs ys:List AV}{b:Bool}(I:ev T X= .ag xs)(A:ev T Y= .ag ys)(p:(zE P t).kind= .arr n e)(y:j9 P t=true)(hi:w5a P e=true)(C:xs.length=n)(B:xQ xs ys=some b):
  ∃U V,a.eval X= .agg U/\a.eval Y= .agg V/\(Op.equalIn 10000 t (.agg U) (.agg V)).run P w= .ok b w/\P.eqGuardType P.depth t=false:=by
 have o:=jC v X
 have q:=jC v Y
 rw[I] at o
 rw[A] at q
 obtain⟨U,G,o⟩:=o
 obtain⟨V,F,q⟩:=q
 obtain⟨d,i,H,D,eq⟩:=jj (jl p (by simp))
 rw[eq] at p
 cases d<;>try (cases p;done)
 rename_i n' x
 injection p with hk1 hk2
 subst hk1
 subst hk2
 simp only[j9,zj,Bool.not_eq_true'] at y
 simp only[w5a,zj,beq_iff_eq] at hi
 obtain⟨l,f⟩:=hi
 cases c:(zE P x).kind<;>rw[c] at l<;>try (cases l;done)
 rename_i k
 obtain⟨z,E,r,m,s⟩:=jj (jl c (by simp))
 rw[s] at c f
 cases z<;>try (cases c;done)
 have u:P.cellsOf x=1:=by
  have f:E.size=1:=f
  simp[Program.cellsOf,m,f]
 refine⟨U,V,G,F,?_,y.1.1⟩
 rw[run_equalIn_array (P:=P) w 9999 U V H m,u,List.range_eq_range', <-C]
 exact Kx (g:=g) (h:=h) 9998 r xs ys 0 U.toList V.toList U V b B o q (λj=>by simp) (λj=>by simp)
theorem QAa(z:HOk B w g h)(hB:B<=w.heap.size)(r:wK (ctx w g h) T a){op:BinOp}{t:TypeId}{X Y:Operand}(c:w6a P op t (ev T X) (ev T Y)=some x):
  DidV P (do eqGuard op t X Y (a.eval X) (a.eval Y);binOp op t (a.eval X) (a.eval Y)) B w g h x h:=by
 unfold w6a at c
 split at c
 ·rename_i k m k' n u s
  have l:=yB r u
  have j:=yB r s
  have H:(eqGuard op t X Y (.int k m) (.int k' n)).run P w= .ok () w:=by cases op<;>simp[eqGuard]
  split at c
  ·split at c
   ·rename_i I
    have G:¬ n<0:=by omega
    rw[l,j]
    cases op<;>simp only[j8a] at c<;>first
     | cases c;done
     | (injection c with c
        subst c
        refine ju z hB ?_ rfl
        simp[H,binOp,Op.shift,G]
        done)
   ·cases c
  ·rename_i K
   split at c
   ·rename_i f
    subst f
    rw[l,j]
    cases op<;>simp only[j9a] at c<;>first
     | cases c;done
     | (injection c with c;subst c
        refine ju z hB ?_ rfl
        simp[H,binOp,Op.intArith,Op.intCmp,Op.intDiv,Op.intBits]
        done)
     | (split at c
        ·cases c
        ·rename_i I
         injection c with c
         subst c
         refine ju z hB ?_ rfl
         simp[H,binOp,Op.intDiv,I])
   ·cases c
 ·rename_i p q u s
  have l:=yB r u
  have j:=yB r s
  split at c
  ·rename_i f
   injection c with c
   subst c
   obtain⟨d,i,C,A,eq⟩:=jj (jl f (by simp))
   rw[eq] at f
   cases d<;>try (cases f;done)
   rw[l,j]
   refine ju z hB ?_ rfl
   simp[eqGuard,binOp,Op.equal,Op.maxDepth,run_equalIn_bool' w 9999 t p q C]
  ·rename_i f
   injection c with c
   subst c
   obtain⟨d,i,C,A,eq⟩:=jj (jl f (by simp))
   rw[eq] at f
   cases d<;>try (cases f;done)
   rw[l,j]
   refine ju z hB ?_ rfl
   simp[eqGuard,binOp,Op.equal,Op.maxDepth,run_equalIn_bool' w 9999 t p q C]
  ·cases c
 ·rename_i xs ys u s
  split at c
  ·rename_i J f
   split at c
   ·rename_i o
    simp only[zj,beq_iff_eq] at o
    cases v:xQ xs ys with
    | none=>rw[v] at c;cases c
    | some b=>
      rw[v] at c
      injection c with c
      subst c
      obtain⟨U,V,l,j,F,E⟩:=Ys r u s f o.1.1 o.1.2 o.2 v
      rw[l,j]
      refine ju z hB ?_ rfl
      simp only[Sem.run_bind,run_eqGuard_agg w _ t X Y U V E,Result.andThen_ok,run_eql_struct,F]
   ·cases c
  ·rename_i J f
   split at c
   ·rename_i o
    simp only[zj,beq_iff_eq] at o
    cases v:xQ xs ys with
    | none=>rw[v] at c;cases c
    | some b=>
      rw[v] at c
      injection c with c
      subst c
      obtain⟨U,V,l,j,F,E⟩:=Ys r u s f o.1.1 o.1.2 o.2 v
      rw[l,j]
      refine ju z hB ?_ rfl
      simp only[Sem.run_bind,run_eqGuard_agg w _ t X Y U V E,Result.andThen_ok,run_neq_struct,F]
   ·cases c
  ·rename_i n e f
   split at c
   ·rename_i o
    simp only[zj,beq_iff_eq] at o
    cases v:xQ xs ys with
    | none=>rw[v] at c;cases c
    | some b=>
      rw[v] at c
      injection c with c
      subst c
      obtain⟨U,V,l,j,F,E⟩:=X1a r u s f o.1.1 o.1.2 o.2 v
      rw[l,j]
      refine ju z hB ?_ rfl
      simp only[Sem.run_bind,run_eqGuard_agg w _ t X Y U V E,Result.andThen_ok,run_eql_struct,F]
   ·cases c
  ·cases c
 ·rename_i u s
  have l:=yB r u
  have j:=yB r s
  split at c
  all_goals first|cases c;done|skip
  all_goals
   rename_i f
   injection c with c
   subst c
   obtain⟨d,i,C,A,eq⟩:=jj (jl f (by simp))
   rw[eq] at f
   cases d<;>try (cases f;done)
   rw[l,j]
   refine ju z hB ?_ rfl
   have y:P.underlying t=some (.pointer (P.pointee t)):=by simp[Program.pointee,C]
   simp[eqGuard,run_eql_pointer_nil w t _ y,run_neq_pointer_nil w t _ y]
 ·rename_i id off u s
  have D:=jC r X
  rw[u] at D
  obtain⟨_,l⟩:=D
  have j:=yB r s
  split at c
  all_goals first|cases c;done|skip
  all_goals
   rename_i f
   injection c with c
   subst c
   obtain⟨d,i,C,A,eq⟩:=jj (jl f (by simp))
   rw[eq] at f
   cases d<;>try (cases f;done)
   rw[l,j]
   refine ju z hB ?_ rfl
   have y:P.underlying t=some (.pointer (P.pointee t)):=by simp[Program.pointee,C]
   simp[eqGuard,run_eql_pointer_nil w t _ y,run_neq_pointer_nil w t _ y]
 ·rename_i p q u s
  have l:=yB r u
  have j:=yB r s
  rw[l,j]
  cases op<;>simp only at c<;>first
   | cases c;done
   | (injection c with c
      subst c
      refine ju z hB ?_ rfl
      simp[eqGuard,binOp,Op.stringOp])
 ·cases c
theorem qqa(m:HOk B w g h){y:AV}{u:Value}(a:JB h y=true)(c:AR (ctx w g h) y u):∃A n k,u= .slice (some A) n k:=by
 unfold JB at a
 rw[Bool.or_eq_true] at a
 rcases a with a|a
 ·unfold XZa at a
  split at a
  ·obtain⟨A,k,e⟩:=c;exact⟨A,0,k,e⟩
  ·cases a
 ·unfold zya at a
  split at a
  ·rename_i r rs e j f
   simp only[decide_eq_true_eq] at a
   obtain⟨A,k,o,p,d,_⟩:=vG m _ c j
   have b:=d e f
   have q:=b.len r (by simp)
   obtain⟨i,s,l,_⟩:=b.cell 0 0 r (nth r 0) rfl (y6 (by omega))
   subst l
   exact⟨i,_,_,o⟩
  ·cases a
theorem QBa(s:HOk B w g h)(hB:B<=w.heap.size)(D:wK (ctx w g h) T a){op:BinOp}{t:TypeId}{X Y:Operand}(p:QZ Y=true)(j:qka P h op t (ev T X)=some x):
  DidV P (do eqGuard op t X Y (a.eval X) (a.eval Y);binOp op t (a.eval X) (a.eval Y)) B w g h x h:=by
 have y:∃n c,a.eval Y= .slice none n c:=by
  unfold QZ at p
  split at p
  ·exact⟨_,_,rfl⟩
  ·cases p
 obtain⟨n,c,z⟩:=y
 rw[z]
 unfold qka at j
 split at j
 ·rename_i e r
  obtain⟨d,i,u,E,eq⟩:=jj (jl r (by simp))
  rw[eq] at r
  cases d<;>try (cases r;done)
  have key:∀A m k b,a.eval X= .slice A m k->A.isNone=b->Vr op b=some x->DidV P (do eqGuard op t X Y (a.eval X) (.slice none n c);binOp op t (a.eval X) (.slice none n c)) B w g h x h:=λA m k b o v f=>by
   rw[o]
   cases op<;>simp only[Vr] at f<;>first
    | cases f;done
    | skip
   ·injection f with f
    subst f
    refine ju s hB ?_ rfl
    simp[eqGuard,Lib.run_eql_slice_nil w t _ A m k n c u,v]
   ·injection f with f
    subst f
    refine ju s hB ?_ rfl
    simp[eqGuard,run_neq_slice_nil_any w t _ A m k n c u,v]
  have l:=jC D X
  split at j
  ·rename_i q
   unfold Qq at q
   split at q
   ·rename_i m k o
    rw[o] at l
    have l:a.eval X= .slice none m k:=l
    exact key none m k true l rfl j
   ·cases q
  ·split at j
   ·rename_i C
    obtain⟨A,m,k,o⟩:=qqa s C l
    exact key (some A) m k false o rfl j
   ·cases j
 ·cases j
end
section
variable {B:Nat} {w:World} {g:Gh} {h h':List Ob} {P:Program} {x:AV} {T:Nat->AV} {a:Act}
theorem Vu(G:HOk B w g h){y:AV}{u:Value}{id st i n:Nat}(a:kp h y=some (id,st,i,n))(C:AR (ctx w g h) y u):
  ∃ty e xs A k,h[id]? =some (.row ty e xs st)/\i+n<=xs.length/\u= .slice A n k/\(0<n->∃o m f,g.cur id= .slice (some o) m f/\A=some (o.add (i*e))):=by
 unfold kp at a
 split at a
 ·rename_i d st'
  split at a
  ·rename_i ty e xs s j
   split at a
   ·rename_i x
    injection a with a
    injection a with h1 a
    injection a with h2 a
    injection a with h3 h4
    subst h1 h2 h3 h4
    subst x
    have p:=Jz C j
    obtain⟨R,O,cells,z,J⟩:=G.ok _ _ j
    obtain⟨A,f,c,L⟩:=wq z
    have c:g.cur d= .slice A xs.length f:=c
    refine⟨ty,e,xs,A,f,j,by omega,p.trans c,λl=>?_⟩
    rcases z.2 with⟨b,r⟩|⟨M,cap,cur,b,_⟩
    ·rw[r] at l;simp at l
    ·have b:g.cur d=_:=b
     rw[b] at c
     injection c with c e3 e4
     exact⟨_,_,_,b,by rw[<-c,Nat.zero_mul];rfl⟩
   ·cases a
  ·cases a
 ·rename_i d st' Q P I
  split at a
  ·rename_i ty e xs s j
   split at a
   ·rename_i x
    obtain⟨t,v,q⟩:=x
    injection a with a
    injection a with h1 a
    injection a with h2 a
    injection a with h3 h4
    subst h1 h2 h3 h4
    subst t v
    obtain⟨A,m,f,D,k,H,N,K,F,E,_⟩:=C
    have p:=Jz H j
    refine⟨ty,e,xs,D,k,j,q,F,λl=>?_⟩
    obtain⟨o,b,r⟩:=E l
    subst b
    exact⟨o,m,f,p.symm,r⟩
   ·cases a
  ·cases a
 ·cases a
theorem qX{α:Type}{l:List α}{i:Nat}{a:α}(h:l[i]? =some a):l.set i a=l:=by
 apply qD
 intro j
 by_cases b:i=j
 ·subst b;rw[zm (zd.1 h).1,h]
 ·rw[zc b]
theorem kJa:∀(p q r s:List AV),q.length=s.length->lay (p++q++r) p.length s=some (p++s++r)
 | [],q,r,s,c=>by
   have key:∀(s q:List AV),q.length=s.length->lay (q++r) 0 s=some (s++r):=by
    intro s
    induction s with
    | nil=>
      intro q b
      have:q=[]:=zz (by simpa using b)
      subst this
      simp only[List.nil_append]
      cases r<;>rfl
    | cons y s d=>
      intro q b
      cases q with
      | nil=>cases b
      | cons z q=>
        simp only[List.cons_append,lay]
        rw[d q (by simpa using b)]
        rfl
   simpa using key s q c
 | a::p,q,r,s,c=>by
   have:=kJa p q r s c
   simp only[List.cons_append,List.length_cons,lay]
   rw[this]
   rfl
theorem w8a{e:Nat}{xs ys:List (List AV)}{i:Nat}(d:∀x∈xs,x.length=e)(g:∀y∈ys,y.length=e)(hi:i+ys.length<=xs.length):
  lay xs.flatten (i*e) ys.flatten=some (xR xs i ys).flatten/\(∀x∈xR xs i ys,x.length=e)/\(xR xs i ys).length=xs.length:=by
 have j:xs=xs.take i++(xs.drop i).take ys.length++xs.drop (i+ys.length):=by
  rw[zn, <-List.drop_drop,qr,qr]
 have a:∀x∈xs.take i,x.length=e:=λx h=>d x (List.mem_of_mem_take h)
 have b:∀x∈(xs.drop i).take ys.length,x.length=e:=λx h=>d x (List.mem_of_mem_drop (List.mem_of_mem_take h))
 have f:(xs.take i).flatten.length=i*e:=by rw[kY a];congr 1;simp;omega
 have c:((xs.drop i).take ys.length).flatten.length=ys.flatten.length:=by rw[kY b,kY g];congr 1;simp;omega
 refine⟨?_,λx h=>?_,by simp[xR];omega⟩
 ·have:=kJa (xs.take i).flatten ((xs.drop i).take ys.length).flatten (xs.drop (i+ys.length)).flatten ys.flatten c
  rw[f] at this
  conv=>lhs;rw[j]
  simp only[List.flatten_append,xR]
  exact this
 ·unfold xR at h
  rcases zK.1 h with h|h
  ·rcases zK.1 h with h|h
   ·exact a x h
   ·exact g x h
  ·exact d x (List.mem_of_mem_drop h)
theorem qra(d:HOk B w g h)(hB:B<=w.heap.size){id st i n ty e:Nat}{xs ys:List (List AV)}(f:h[id]? =some (.row ty e xs st))(b:i+ys.length<=xs.length)(j:∀y∈ys,y.length=e){c:Addr}{m o:Nat}(r:g.cur id= .slice (some c) m o)
  {vs:List Value} (a:ARs (ctx w g h) ys.flatten vs) (q:∀v∈vs,v.oneCell'=true):
  ∃w' g',(storeCells (c.add (i*e)) vs).run P w= .ok () w'/\Good B w g h w' g' (h.set id (.row ty e (xR xs i ys) st)):=by
 obtain⟨u,p,cells,t,s⟩:=d.ok _ _ f
 obtain⟨l,l2,k⟩:=w8a p j b
 exact kIa d hB f r a q l l2 k
theorem vBa(G:HOk B w g h)(hB:B<=w.heap.size){t ty e:TypeId}{y:AV}{u:Value}(Z:AR (ctx w g h) y u)(f:(zE P t).kind= .slice e){id st i n:Nat}(L:kp h y=some (id,st,i,n)){z:List Value}(s:(zE P e).zero=some z)
  (X:(zE P e).ok=true) (Q:z.length=(zE P e).sz) (b:kT h id i e (zE P e).sz (List.replicate n (z.map .v))=some h'):
  ∃w' g',(Builtin.clear_ #[t] ty #[u]).run P w= .ok (.tuple #[]) w'/\Good B w g h w' g' h':=by
 obtain⟨d,it,o,M,eq⟩:=jj (jl f (by simp))
 rw[eq] at f
 cases d<;>try (cases f;done)
 injection f with f
 subst f
 rename_i e
 obtain⟨S,e',xs,A,k,p1,p2,D,I⟩:=Vu G L Z
 unfold kT at b
 rw[p1] at b
 simp only at b
 split at b
 ·rename_i N
  obtain⟨W,Y,J⟩:=N
  injection b with b
  subst b
  subst W
  by_cases K:n=0
  ·subst K
   have:xR xs i (List.replicate 0 (z.map AV.v))=xs:=by simp[xR]
   rw[this,qX p1]
   refine⟨w,g,?_,Good.refl G hB⟩
   subst D
   cases A<;>simp[Builtin.clear_,run_underlying o]
  ·obtain⟨ad,m,cp,U,r2⟩:=I (by omega)
   obtain⟨d',R,V,x,j⟩:=jj X
   cases c:R.zero with
   | none=>rw[j] at s;simp[c] at s
   | some F=>
     have E:F.cells.toList=z:=by rw[j] at s;simpa [c] using s
     have a:∀y∈List.replicate n (z.map AV.v),y.length=e':=λy hy=>by rw[List.eq_of_mem_replicate hy];simp[Q,Y]
     have C:(List.replicate n (z.map AV.v)).flatten=(List.replicate n z).flatten.map AV.v:=by
      clear a J p2 I D L
      induction n with
      | zero=>simp
      | succ m ih=>simp[List.replicate_succ]
     have l:∀v∈(List.replicate n z).flatten,v.oneCell'=true:=λv O=>by
      obtain⟨r,H,p⟩:=List.mem_flatten.1 O
      rw[List.eq_of_mem_replicate H] at p
      have:=zL.1 J (z.map AV.v) (by rw[List.mem_replicate];exact⟨K,rfl⟩)
      simp only[zj] at this
      have:=zL.1 this.2 (.v v) (zx.2 ⟨v,p,rfl⟩)
      exact this
     obtain⟨w',g',s1,T⟩:=qra (P:=P) (n:=n) G hB p1 (i:=i) (ys:=List.replicate n (z.map AV.v)) (by simpa using p2) a U (vs:=(List.replicate n z).flatten) (by rw[C];exact Xd _) l
     refine⟨w',g',?_,T⟩
     subst D
     subst r2
     have q:(Builtin.zeroCells F.cells n).toList=(List.replicate n z).flatten:=by
      have:=Jr F.cells n
      rw[E] at this
      exact this
     obtain⟨n,rfl⟩:∃m,n=m+1:=⟨n - 1,by omega⟩
     simp[Builtin.clear_,run_underlying o,Vs x c,q,s1]
 ·cases b
theorem Yt{sz n:Nat}{A:Option Addr}{m k:Nat}{vs:List Value}(b:vs.length=n*sz)(d:A=none->n=0)(c:∀a,A=some a->∀j u,vs[j]? =some u->w.cell? (a.add j)=some u):(Builtin.firstCells sz n (.slice A m k)).run P w= .ok vs.toArray w:=by
 cases A with
 | none=>
   have:vs=[]:=zz (by rw[b,d rfl,Nat.zero_mul])
   subst this
   simp[Builtin.firstCells]
 | some a=>
   have:=run_loadCells_list (P:=P) w a vs (c a rfl)
   rw[b] at this
   simpa [Builtin.firstCells] using this
theorem w9a(O:HOk B w g h)(hB:B<=w.heap.size){t ty e:TypeId}{y s:AV}{u v:Value}(hu:AR (ctx w g h) y u)(hv:AR (ctx w g h) s v)(x:(zE P t).kind= .slice e){id st i n:Nat}(hp:kp h y=some (id,st,i,n)){ys:List (List AV)}(C:zZ h s=some ys)
  (ho:(zE P e).ok=true) (h0:0<(zE P e).sz) (p:kT h id i e (zE P e).sz (ys.take n)=some h'):
  ∃w' g',(Builtin.copy_ #[t,t] ty #[u,v]).run P w= .ok (.int .i64 ((ys.take n).length:Nat)) w'/\Good B w g h w' g' h':=by
 obtain⟨d,it,I,ζ,eq⟩:=jj (jl x (by simp))
 rw[eq] at x
 cases d<;>try (cases x;done)
 injection x with x
 subst x
 rename_i e
 obtain⟨R,e',xs,A,k,p1,p2,p3,p4⟩:=Vu O hp hu
 obtain⟨A2,k2,Z,r2,r3,r4⟩:=vG O _ hv C
 unfold kT at p
 rw[p1] at p
 simp only at p
 split at p
 ·rename_i hc
  obtain⟨c1,c2,c3⟩:=hc
  injection p with p
  subst p
  subst c1
  obtain⟨d',K,ο,F,S⟩:=jj ho
  have U:(zE P R).sz=K.size:=by rw[S]
  have c:(ys.take n).length=min ys.length n:=by rw[zX,Nat.min_comm]
  have l:∀r∈ys.take n,r.length=e'/\r.all AV.one=true:=λr C=>by
   have:=zL.1 c3 r C
   simp only[zj,beq_iff_eq] at this
   exact⟨by rw[c2];exact this.1,this.2⟩
  by_cases E:(ys.take n).length=0
  ·have X:ys.take n=[]:=zz E
   have:xR xs i (ys.take n)=xs:=by rw[X];simp[xR]
   rw[this,qX p1]
   refine⟨w,g,?_,Good.refl O hB⟩
   subst p3
   subst Z
   have L:Nat.min ys.length n=0:=by rw[<-E,c]
   have N:=Yt (P:=P) (w:=w) (sz:=K.size) (n:=0) (A:=A2) (m:=ys.length) (k:=k2) (vs:=[]) (by simp) (λ_=>rfl) (λ_ _ _ _ h=>by simp at h)
   rw[E]
   cases A<;>simp[Builtin.copy_,run_underlying I,Builtin.lenOf,sizeOf,typeInfo,F,L,N,goInt,storeCells]
  ·have Q:0<n:=by
    rcases Nat.eq_zero_or_pos n with h|h
    ·subst h;simp at E
    ·exact h
   obtain⟨ad,m,cp,q1,q2⟩:=p4 Q
   subst q2
   have o:ys≠[]:=λh=>by subst h;simp at E
   cases J:eOf h s with
   | none=>exact absurd (r4 J) o
   | some M=>
     have f:=r3 M J
     obtain⟨r0,H⟩:∃r,r∈ys.take n:=List.exists_mem_of_ne_nil _ (λh=>E (by rw[h];rfl))
     have V:M=e':=by rw[<-f.len r0 (List.mem_of_mem_take H)];exact(l r0 H).1
     subst V
     obtain⟨b,T⟩:∃b,A2=some b:=by
      cases z:ys with
      | nil=>exact absurd z o
      | cons q qs=>
        have Y:=f.len q (by rw[z];simp)
        obtain⟨b,u',z1,_⟩:=f.cell 0 0 q (nth q 0) (by rw[z];rfl) (y6 (by omega))
        exact⟨b,z1⟩
     subst T
     have G:RowsAt w (ctx w g h) M (ys.take n) (some b):=⟨λr C=>(l r C).1,λj k r a D x=>by
      rw[qO] at D
      split at D
      ·exact f.cell j k r a D x
      ·cases D⟩
     obtain⟨news,n1,n2,n3,n4⟩:=Yr G λr C=>(l r C).2
     obtain⟨w',g',s1,s2⟩:=qra (P:=P) (n:=n) O hB p1 (i:=i) (ys:=ys.take n) (by rw[c];omega) (λy hy=>(l y hy).1) q1 n4 n3
     refine⟨w',g',?_,s2⟩
     subst p3
     subst Z
     have L:Nat.min ys.length n=(ys.take n).length:=c.symm
     have W:M=K.size:=by rw[c2,U]
     have N:=Yt (P:=P) (w:=w) (sz:=K.size) (n:=(ys.take n).length) (A:=some b) (m:=ys.length) (k:=k2) (vs:=news) (by rw[n1,W]) (λh=>by cases h) (λad h j u D=>by injection h with h;subst h;exact n2 j u D)
     obtain⟨q,Y⟩:∃q,(ys.take n).length=q:=⟨_,rfl⟩
     rw[Y] at L N⊢
     simp[Builtin.copy_,run_underlying I,Builtin.lenOf,sizeOf,typeInfo,F,L,N,s1,goInt]
 ·cases p
theorem vCa(J:HOk B w g h)(hB:B<=w.heap.size)(u:wK (ctx w g h) T a){t e:TypeId}{X:Operand}{lo hi:Option Operand}{xs:List (List AV)}{l m:Int}(o:(zE P t).kind= .slice e)(O:zZ h (ev T X)=some xs)(f:y8 T 0 lo=some l)(i:y8 T xs.length hi=some m)
  (Q:(zE P e).ok=true) (h0:0<=l) (h1:l<=m) (H:m<=xs.length) (E:l=m∨(0<(zE P e).sz/\eOf h (ev T X)=some (zE P e).sz)):DidV P (Instr.sliceAt t (a.eval X) (lo.map a.eval) (hi.map a.eval) none) B w g h (.vw (ev T X) (zE P e).sz l.toNat (m.toNat - l.toNat)) h:=by
 obtain⟨d,it,F,K,eq⟩:=jj (jl o (by simp))
 rw[eq] at o
 cases d<;>try (cases o;done)
 injection o with o
 subst o
 rename_i e
 obtain⟨d',L,N,z,C⟩:=jj Q
 have I:=jC u X
 obtain⟨A,k,G,r2,V,r4⟩:=vG J _ I O
 have b:(match lo.map a.eval with|some v=>Instr.sliceBound v m.toNat .sliceB|none=>pure 0:Sem Nat).run P w= .ok l.toNat w:=by
  cases lo with
  | none=>injection f with f;subst f;rfl
  | some x=>
    simp only[y8] at f
    split at f
    ·rename_i kk n s
     injection f with f
     subst f
     have:=yB u s
     simp only[Option.map_some,this,Instr.sliceBound,asIntOf,Sem.run_bind,Sem.run_pure,Result.andThen_ok,if_pos (show 0<=n/\n<=(m.toNat:Int) by omega)]
    ·cases f
 have c:(match hi.map a.eval with|some v=>Instr.sliceBound v k .sliceAcap|none=>pure xs.length:Sem Nat).run P w= .ok m.toNat w:=by
  cases hi with
  | none=>injection i with i;subst i;simp
  | some x=>
    simp only[y8] at i
    split at i
    ·rename_i kk n s
     injection i with i
     subst i
     have:=yB u s
     simp only[Option.map_some,this,Instr.sliceBound,asIntOf,Sem.run_bind,Sem.run_pure,Result.andThen_ok,if_pos (show 0<=n/\n<=(k:Int) by omega)]
    ·cases i
 refine ju J hB (v:= .slice (if k=l.toNat then A else A.map (·.add (l.toNat*L.size))) (m.toNat - l.toNat) (k - l.toNat)) ?_ ?_
 ·have S:(Instr.sliceBounds true xs.length k (lo.map a.eval) (hi.map a.eval) none).run P w= .ok (l.toNat,m.toNat,k) w:=by
   unfold Instr.sliceBounds
   cases lo with
   | none=>cases hi with
     | none=>
       injection b with b
       injection c with c
       simp[b,c]
     | some x=>
       injection b with b
       simp only[Option.map_some] at c
       simp[b,c]
   | some y=>cases hi with
     | none=>
       injection c with c
       simp only[Option.map_some] at b
       simp[b,c]
     | some x=>
       simp only[Option.map_some] at b c
       simp[b,c]
  simp only[Instr.sliceAt,Sem.run_bind,run_underlying F,Result.andThen_ok,Instr.slice,G]
  simp only[Sem.run_bind,S,Result.andThen_ok,sizeOf,typeInfo,run_program]
  simp[z]
 ·refine⟨A,xs.length,k,_,_,by rw[<-G];exact I,by omega,by omega,rfl,λhn=>?_,λh0=>?_⟩
  rotate_left
  ·rw[h0]
   refine⟨?_,rfl⟩
   split
   ·exact .inl rfl
   ·exact .inr (by simp)
  have r:k≠l.toNat:=by omega
  rw[if_neg r]
  cases A with
  | some W=>exact⟨W,rfl,by rw[C];rfl⟩
  | none=>
    exfalso
    rcases E with Y|⟨R,D⟩
    ·omega
    ·have p:=V _ D
     cases j:xs with
     | nil=>rw[j] at H;simp at H;omega
     | cons q Z=>
       have hq:=p.len q (by rw[j];simp)
       obtain⟨U,u',M,_⟩:=p.cell 0 0 q (nth q 0) (by rw[j];rfl) (y6 (by omega))
       cases M
end
section
variable {B:Nat} {w:World} {g:Gh} {h h':List Ob} {P:Program} {x:AV} {T:Nat->AV} {a:Act} {kk:IntKind} {n:Int} {v:AV}
theorem jZ:∀ {es:List (AV × AV)},kK kk es=true↔∀p∈es,p.1= .v (.int kk (kr p))
 | []=>by simp[kK]
 | p::r=>by
   have c:=jZ (es:=r)
   constructor
   ·intro h q a
    unfold kK at h
    split at h
    ·rename_i heq;cases heq
    ·rename_i k m u d heq
     injection heq with b h2
     subst b h2
     simp only[zj,beq_iff_eq] at h
     rcases zH.1 a with rfl|a
     ·simp[kr,h.1]
     ·exact c.1 h.2 q a
    ·cases h
   ·intro h
    obtain⟨p1,p2⟩:=p
    have h0:p1=_:=h (p1,p2) (by simp)
    have b:=c.2 λq a=>h q (by simp[a])
    rw[h0]
    simp[kK,b]
theorem Ky{a b:List (AV × AV)}(d:a.Perm b)(h:kK kk b=true):kK kk a=true:=by
 rw[jZ] at h⊢
 exact λp c=>h p (d.mem_iff.1 c)
theorem JD:∀ {es:List (AV × AV)},xV n es=true↔∃p∈es,kr p=n
 | []=>by simp[xV]
 | p::r=>by simp[xV,JD (es:=r)]
theorem wu:∀(es:List (AV × AV)),xb kk n v es=es.map λp=>if kr p=n then(.v (.int kk n),v) else p
 | []=>rfl
 | p::r=>by simp[xb,wu r]
theorem y9:∀(es:List (AV × AV)),(jP kk n v es).Perm ((.v (.int kk n),v)::es)
 | []=> .refl _
 | p::r=>by
   unfold jP
   split
   ·exact .refl _
   ·exact((y9 r).cons p).trans (.swap _ _ _)
theorem Kz{n n':Int}{v v':AV}(d:n≠n'):∀(es:List (AV × AV)),jP kk n v (jP kk n' v' es)=jP kk n' v' (jP kk n v es)
 | []=>by
   simp only[jP,kr]
   by_cases h:n<n'
   ·simp[h,show ¬ n'<n by omega]
   ·simp[h,show n'<n by omega]
 | p::r=>by
   have e:=Kz (v:=v) (v':=v') d r
   have k1:kr (.v (.int kk n),v)=n:=rfl
   have k2:kr (.v (.int kk n'),v')=n':=rfl
   by_cases b:n<kr p
   ·by_cases a:n'<kr p
    ·by_cases c:n<n'
     ·simp[jP,b,a,c,k1,k2,show ¬ n'<n by omega]
     ·simp[jP,b,a,c,k1,k2,show n'<n by omega]
    ·have c:n<n':=by omega
     simp[jP,b,a,k1,show ¬ n'<n by omega]
   ·by_cases a:n'<kr p
    ·have c:n'<n:=by omega
     simp[jP,b,a,k2,show ¬ n<n' by omega]
    ·simp[jP,b,a,e]
theorem kZ{c:Ctx}:∀ {l:List (AV × AV)} {es:List MapEntry},MapRel c l es->l.length=es.length
 | [],es,h=>by have h:es=[]:=h;simp[h]
 | p::r,es,⟨e,q,a,_,_,b⟩=>by subst a;simp[kZ b]
theorem ku{c:Ctx}:∀ {l:List (AV × AV)} {es:List MapEntry},MapRel c l es->∀(i:Nat) (p:AV × AV),l[i]? =some p->∃e,es[i]? =some e/\AR c p.1 e.key/\AR c p.2 e.val
 | q::r,es,⟨e,s,b,d,f,g⟩,0,p,a=>by injection a with a;subst a b;exact⟨e,rfl,d,f⟩
 | q::r,es,⟨e,s,b,d,f,g⟩,i+1,p,a=>by
   subst b
   exact ku g i p (by simpa using a)
theorem XY{c:Ctx}:∀ {l:List (AV × AV)} {es:List MapEntry},l.length=es.length->(∀(i:Nat) (p:AV × AV) (e:MapEntry),l[i]? =some p->es[i]? =some e->AR c p.1 e.key/\AR c p.2 e.val)->MapRel c l es
 | [],[],_,_=>rfl
 | [],_::_,h,_=>by cases h
 | _::_,[],h,_=>by cases h
 | p::l,e::es,d,h=>⟨e,es,rfl,(h 0 p e rfl rfl).1,(h 0 p e rfl rfl).2,XY (by simpa using d) λi p e a b=>h (i+1) p e (by simpa using a) (by simpa using b)⟩
theorem JE{kk':IntKind}:∀(es:List MapEntry) (i:Nat),(∀e∈es,∃m,e.key= .int kk m)->(∀e∈es,e.key≠ .int kk n)/\Instr.findNow (.int kk') (.int kk n) es i=some none∨∃j e,es[j]? =some e/\e.key= .int kk n/\Instr.findNow (.int kk') (.int kk n) es i=some (some (i+j,e.val))
 | [],i,_=> .inl ⟨by simp,rfl⟩
 | e::es,i,l=>by
   obtain⟨m,c⟩:=l e (by simp)
   by_cases b:n=m
   ·subst b
    exact .inr ⟨0,e,rfl,c,by simp[Instr.findNow,c,Instr.sameNow]⟩
   ·have k:Instr.sameNow (.int kk') (.int kk n) e.key=some false:=by simp[c,Instr.sameNow,b]
    rcases JE (kk':=kk') es (i+1) (λe p=>l e (by simp[p])) with⟨f,d⟩|⟨j,g,f,d,o⟩
    ·refine .inl ⟨λg a=>?_,by simp[Instr.findNow,k,d]⟩
     rcases zH.1 a with rfl|a
     ·rw[c];intro h;injection h with _ h;exact b h.symm
     ·exact f g a
    ·exact .inr ⟨j+1,g,by simpa using f,d,by simp[Instr.findNow,k,o];omega⟩
theorem Yu{es:List MapEntry}(c:(es.map (·.key)).Nodup){i j:Nat}{e b:MapEntry}(hi:es[i]? =some e)(h:es[j]? =some b)(g:e.key=b.key):i=j:=by
 have a:(es.map (·.key))[i]? =some e.key:=by simp[hi]
 have f:(es.map (·.key))[j]? =some e.key:=by simp[h,g]
 have d:=(zd.1 a).1
 exact(List.getElem?_inj d c).1 (a.trans f.symm)
theorem qsa{c:Ctx}{l:List (AV × AV)}{es:List MapEntry}(f:MapRel c l es)(g:kK kk l=true):∀e∈es,∃m,e.key= .int kk m:=λe h=>by
 obtain⟨i,hi⟩:=List.mem_iff_getElem?.1 h
 have d:i<l.length:=by rw[kZ f];exact(zd.1 hi).1
 obtain⟨j,a,b,_⟩:=ku f i _ (zh d)
 rw[hi] at a
 injection a with a
 subst a
 have:=jZ.1 g l[i] (zw d)
 rw[this] at b
 exact⟨_,b⟩
theorem Vv{z:AV}:∀ {es:List (AV × AV)},(∀p∈es,kr p≠n)->Qg n z es=(z,false)
 | [],_=>rfl
 | p::r,h=>by
   have c:=Vv (z:=z) (es:=r) λq b=>h q (by simp[b])
   have a:=h p (by simp)
   simp[Qg,c,a]
theorem Vw{z:AV}:∀ {es:List (AV × AV)},(∃p∈es,kr p=n)->∃p∈es,kr p=n/\Qg n z es=(p.2,true)
 | [],h=>by simp at h
 | p::r,h=>by
   by_cases a:kr p=n
   ·exact⟨p,by simp,a,by simp[Qg,a]⟩
   ·obtain⟨q,b,c⟩:=h
    rcases zH.1 b with rfl|b
    ·exact absurd c a
    ·obtain⟨f,g,d,e⟩:=Vw (z:=z) (es:=r) ⟨q,b,c⟩
     exact⟨f,by simp[g],d,by simp[Qg,a,e]⟩
theorem Vx{c:Ctx}{M L mt:TypeId}{es:Array MapEntry}{k:Nat}{l l':List (AV × AV)}{b:Nat}{kk':IntKind}{z:Value}{D:AV}(W:P.underlying mt=some (.map M L))(A:P.underlying M=some (.int kk'))(S:w.heap[b]? =some (.map es k))(H:l'.Perm l)(C:MapRel c l' es.toList)(Y:(es.toList.map (·.key)).Nodup)
  (m:kK kk l=true) (Q:(zeroValue L).run P w= .ok z w) (F:AR c D z) (ok:Bool):
  ∃u,(Instr.lookup mt (.map (some b)) (.int kk n) ok).run P w= .ok u w/\AR c (if ok then .tup [(Qg n D l).1,.v (.bool (Qg n D l).2)] else(Qg n D l).1) u:=by
 have E:=Ky H m
 have R:∀ {β:Type} (f:Obj->Sem β),(Sem.getObj b f).run P w=(f (.map es k)).run P w:=λf=>by simp[Sem.run,S]
 have x:∀(r:Option (Nat × Value)) (q:Value) (t:Bool),Instr.findNow (.int kk') (.int kk n) es.toList 0=some r->(match r with|some (_,v)=>(pure (v,true):Sem (Value × Bool))|none=>do pure (<-zeroValue L,false)).run P w= .ok (q,t) w->
   (Instr.lookup mt (.map (some b)) (.int kk n) ok).run P w= .ok (if ok then .tuple #[q,.bool t] else q) w:=λr q t X o=>by
  have K:∀d,(Instr.checkKey es.isEmpty (d+1) M (.int kk n)).run P w= .ok () w:=λd=>by simp[Instr.checkKey,run_underlying A]
  have U:(getObj b).run P w= .ok (.map es k) w:=by simp[getObj,Sem.run,S]
  simp only[Instr.lookup,Sem.run_bind,run_underlying W,Result.andThen_ok,U,Sem.run_pure,K,Instr.findKey,run_underlying A,X]
  cases r with
  | some p=>obtain⟨i,v⟩:=p;simp only[Sem.run_pure] at o ⊢;injection o with o _;injection o with h s;subst h s;cases ok<;>simp
  | none=>simp only[Sem.run_bind,Q,Result.andThen_ok,Sem.run_pure] at o ⊢;injection o with o _;injection o with h s;subst h s;cases ok<;>simp
 rcases JE (kk':=kk') es.toList 0 (qsa C E) (n:=n) with⟨h,s⟩|⟨j,e,h,s,T⟩
 ·have I:∀p∈l,kr p≠n:=λp B e=>by
   obtain⟨i,hi⟩:=List.mem_iff_getElem?.1 (H.mem_iff.2 B)
   obtain⟨G,g,a,_⟩:=ku C i p hi
   have:=jZ.1 m p B
   rw[this,e] at a
   exact h G (qn g) a
  refine⟨_,x none z false s (by simp[Q]),?_⟩
  rw[Vv I]
  cases ok
  ·exact F
  ·exact⟨_,rfl,_,_,rfl,F,_,_,rfl,rfl,rfl⟩
 ·have y:j<l'.length:=by rw[kZ C];exact(zd.1 h).1
  have hex:∃p∈l,kr p=n:=by
   obtain⟨G,g,a,_⟩:=ku C j _ (zh y)
   rw[h] at g
   injection g with g
   subst g
   have O:=H.mem_iff.1 (zw y)
   have:=jZ.1 m _ O
   rw[this] at a
   have a:e.key= .int kk _:=a
   rw[s] at a
   injection a with _ a
   exact⟨_,O,a.symm⟩
  obtain⟨p,p1,p2,V⟩:=Vw (z:=D) hex
  obtain⟨i,hi⟩:=List.mem_iff_getElem?.1 (H.mem_iff.2 p1)
  obtain⟨G,g,a,N⟩:=ku C i p hi
  have:=jZ.1 m p p1
  rw[this,p2] at a
  have a:G.key= .int kk n:=a
  have J:=Yu Y g h (a.trans s.symm)
  subst J
  rw[h] at g
  injection g with g
  subst g
  refine⟨_,x (some (0+i,e.val)) e.val true T (by simp),?_⟩
  rw[V]
  cases ok
  ·exact N
  ·exact⟨_,rfl,_,_,rfl,N,_,_,rfl,rfl,rfl⟩
theorem xfa(V:HOk B w g h)(hB:B<=w.heap.size){Z et mt:TypeId}{id:Nat}{l l2:List (AV × AV)}{kk':IntKind}{u:Value}(hu:P.underlying mt=some (.map Z et))(E:P.underlying Z=some (.int kk'))(U:h[id]? =some (.mapo l))(hv:AR (ctx w g h) v u)(x:Qj kk n v l=some l2):
  ∃w',(Instr.mapUpdate mt (.map (some (g.β id))) (.int kk n) u).run P w= .ok () w'/\Good B w g h w' g (h.set id (.mapo l2)):=by
 obtain⟨h1,es,k,l',O,s,y,X⟩:=V.ok id _ U
 have O:w.heap[g.β id]? =some (.map es k):=O
 unfold Qj at x
 split at x
 case isFalse=>cases x
 rename_i F
 injection x with x
 have D:=Ky s F
 have L:∀d,(Instr.checkKey false (d+1) Z (.int kk n)).run P w= .ok () w:=λd=>by simp[Instr.checkKey,run_underlying E]
 have hg:(getObj (g.β id)).run P w= .ok (.map es k) w:=by simp[getObj,Sem.run,O]
 have C:∀o,(setObj (g.β id) o).run P w= .ok () { w with heap:=w.heap.setIfInBounds (g.β id) o }:=λo=>by simp[setObj,Sem.run,O]
 rcases JE (kk':=kk') es.toList 0 (qsa y D) (n:=n) with⟨A,G⟩|⟨j,e,A,G,f3⟩
 ·have S:xV n l=false:=by
   rw[Bool.eq_false_iff]
   intro hc
   obtain⟨p,K,e⟩:=JD.1 hc
   obtain⟨i,hi⟩:=List.mem_iff_getElem?.1 (s.mem_iff.2 K)
   obtain⟨Q,r,f,_⟩:=ku y i p hi
   have:=jZ.1 F p K
   rw[this,e] at f
   exact A Q (qn r) f
  rw[S] at x
  simp only[Bool.false_eq_true,if_false] at x
  subst x
  refine⟨_,?_,qfa V hB U (es':=es.push { key:= .int kk n,val:=u,born:=k }) (k':=k+1) (l2:=l'++[(.v (.int kk n),v)]) ?_ ?_ ?_⟩
  ·simp only[Instr.mapUpdate,Sem.run_bind,run_underlying hu,Result.andThen_ok,hg,L,Instr.findKey,run_underlying E,G,Sem.run_pure,C]
  ·refine(List.perm_append_comm).trans (List.Perm.trans ?_ (y9 l).symm)
   exact s.cons _
  ·rw[Array.toList_push]
   refine XY (by simp[kZ y]) λi p e s m=>?_
   by_cases hi:i<l'.length
   ·rw[zC hi] at s
    rw[zC (by rw[<-kZ y];exact hi)] at m
    obtain⟨Q,r,f,R⟩:=ku y i p s
    rw[m] at r;injection r with r;subst r
    exact⟨f,R⟩
   ·have hl:=kZ y
    rw[zI (by omega)] at s m
    rw[<-hl] at m
    have h0:i - l'.length=0:=by
     have:=(zd.1 s).1
     simp at this;omega
    rw[h0] at s m
    injection s with s;injection m with m
    subst s m
    exact⟨rfl,hv⟩
  ·rw[Array.toList_push,zy,List.nodup_append]
   refine⟨X,by simp,λa ha b hb=>?_⟩
   simp at hb
   obtain⟨e,m,rfl⟩:=zx.1 ha
   rw[hb]
   exact A e m
 ·have I:j<l'.length:=by rw[kZ y];exact(zd.1 A).1
  have M:xV n l=true:=by
   rw[JD]
   obtain⟨Q,r,f,_⟩:=ku y j _ (zh I)
   rw[A] at r
   injection r with r
   subst r
   have hm:=s.mem_iff.1 (zw I)
   have:=jZ.1 F _ hm
   rw[this] at f
   have f:e.key= .int kk _:=f
   rw[G] at f
   injection f with _ f
   exact⟨_,hm,f.symm⟩
  rw[M] at x
  simp only[if_true] at x
  subst x
  have J:es[j]? =some e:=by simpa using A
  refine⟨_,?_,qfa V hB U (es':=es.modify j λe=>{ e with key:= .int kk n,val:=u }) (k':=k) (l2:=xb kk n v l') ?_ ?_ ?_⟩
  ·have W:(Instr.keyThatStays e.key (.int kk n)).run P w= .ok (.int kk n) w:=by simp[Instr.keyThatStays,G,Instr.sameBits]
   rw[Nat.zero_add] at f3
   simp only[Instr.mapUpdate,Sem.run_bind,run_underlying hu,Result.andThen_ok,hg,L,Instr.findKey,run_underlying E,f3,Sem.run_pure,J,Option.map_some,Option.getD_some,W,C]
  ·rw[wu,wu]
   exact s.map _
  ·refine XY (by simp[wu,kZ y]) λi p Q c m=>?_
   rw[wu,zr] at c
   cases z:l'[i]? with
   | none=>rw[z] at c;cases c
   | some q=>
     rw[z] at c
     injection c with c
     obtain⟨e2,r,f,R⟩:=ku y i q z
     have H:=jZ.1 D q (qn z)
     rw[H] at f
     have f:e2.key= .int kk (kr q):=f
     rw[qB,Array.getElem?_modify] at m
     have T:es[i]? =some e2:=by simpa using r
     rw[T] at m
     by_cases N:kr q=n
     ·rw[N] at f
      have t:=Yu X r A (f.trans G.symm)
      subst t
      have c:(if kr q=n then((.v (.int kk n),v):AV × AV) else q)=p:=c
      rw[if_pos N] at c
      subst c
      simp only[if_true,Option.map_some] at m
      injection m with m
      subst m
      exact⟨rfl,hv⟩
     ·have t:j≠i:=λY=>by
       subst Y
       rw[A] at r
       injection r with r
       subst r
       rw[G] at f
       injection f with _ f
       exact N f.symm
      have c:(if kr q=n then((.v (.int kk n),v):AV × AV) else q)=p:=c
      rw[if_neg N] at c
      subst c
      rw[if_neg t] at m
      injection m with m
      subst m
      exact⟨by rw[H];exact f,R⟩
  ·have:(es.modify j λe=>{ e with key:= .int kk n,val:=u }).toList.map (·.key)=es.toList.map (·.key):=by
    apply qD
    intro i
    rw[zr,zr,qB,Array.getElem?_modify,qB]
    by_cases t:j=i
    ·subst t;rw[J];simp[G]
    ·rw[if_neg t]
   rw[this]
   exact X
theorem yaa{c:Ctx}{t:TypeId}{z:AV}(b:kGa (zE P t)=some z):∃u,(zeroValue t).run P w= .ok u w/\AR c z u:=by
 unfold kGa at b
 split at b
 ·rename_i g
  cases a:(zE P t).zero with
  | none=>rw[a] at b;cases b
  | some j=>
    rw[a] at b
    simp only[Option.bind_some] at b
    obtain⟨d,i,k,hi,e⟩:=jj (zza a)
    rw[e] at a g
    cases f:i.zero with
    | none=>rw[f] at a;cases a
    | some v=>
      rw[f] at a g
      injection a with a
      have h:v.cells= #[v]:=by
       have g:v.oneCell'=true:=g
       cases v<;>first|rfl|cases g
      have a:v.cells.toList=j:=a
      rw[h] at a
      subst a
      injection b with b
      subst b
      exact⟨v,Vs hi f,rfl⟩
 ·cases b
theorem qta{c:Ctx}{t:TypeId}(q:(zE P t).ok=true){cs:List AV}{vs:Array Value}(l:ARs c cs vs.toList){k:Nat}{x:AV}(a:part cs k (zE P t).agg (zE P t).sz=some x):∃u,(_root_.Go.part t vs k).run P w= .ok u w/\AR c x u:=by
 obtain⟨d,i,p,hi,e⟩:=jj q
 rw[e] at a
 have f:(isAgg t).run P w= .ok (kEa d) w:=by
  simp only[isAgg,Sem.run_bind,run_underlying p,Result.andThen_ok]
  cases d<;>rfl
 simp only[part] at a
 split at a
 ·rename_i h
  cases b:cut cs k i.size with
  | none=>rw[b] at a;cases a
  | some rs=>
    rw[b] at a
    injection a with a
    subst a
    obtain⟨s,m,v⟩:=zta l k _ b
    refine⟨.agg (vs.extract k (k+i.size)),?_,_,rfl,?_⟩
    ·have j:k+i.size<=vs.size:=by simpa using m
     simp[_root_.Go.part,f,h,sizeOf,typeInfo,hi,j]
    ·simpa [Array.toList_extract,List.extract_eq_take_drop] using s
 ·rename_i h
  split at a
  ·rename_i o
   injection a with a
   subst a
   obtain⟨u,r,n⟩:=vv l k o
   refine⟨u,?_,n⟩
   have g:vs[k]? =some u:=by simpa using r
   simp[_root_.Go.part,f,h,g]
  ·cases a
end
section
variable {B:Nat} {w:World} {g:Gh} {h h':List Ob} {P:Program} {x:AV} {T:Nat->AV} {a:Act}
theorem Yv:∀ {rows:List (List AV)} {l:List UInt8},zxa rows=some l->∃ns:List Int,rows=ns.map (λn=>[AV.v (.int .u8 n)])/\l=ns.map λn=>UInt8.ofNat n.toNat
 | [],l,h=>by
   injection h with h
   exact⟨[],rfl,h.symm⟩
 | r::rows,l,h=>by
   unfold zxa at h
   split at h
   ·rename_i e;cases e
   ·rename_i n d e
    injection e with e1 e2
    subst e2
    cases a:zxa rows with
    | none=>rw[a] at h;cases h
    | some l'=>
      rw[a] at h
      injection h with h
      obtain⟨ns,c,b⟩:=Yv a
      exact⟨n::ns,by rw[e1,c];rfl,by rw[<-h,b];rfl⟩
   ·cases h
theorem vDa(l:List Int):∀s:ByteArray,l.foldl (λr n=>r.push (UInt8.ofNat n.toNat)) s=⟨s.data++(l.map λn=>UInt8.ofNat n.toNat).toArray⟩:=by
 induction l with
 | nil=>intro s;simp
 | cons x l a=>
   intro s
   simp only[List.map_cons,List.foldl_cons]
   rw[a]
   simp[ByteArray.push]
theorem yba(V:HOk B w g h){s d:TypeId}{rows:List (List AV)}{v:Value}{z:AV}(W:AR (ctx w g h) (.sl 1 rows) v)(Y:(zE P s).ok=true)(J:(zE P d).kind= .str)(c:w7a P s rows=some z):
  ∃u,(convert s d v).run P w= .ok u w/\AR (ctx w g h) z u:=by
 obtain⟨A,k,X,h2,p,_⟩:=vG V (.sl 1 rows) W rfl
 have p:=p 1 rfl
 unfold w7a at c
 split at c
 ·rename_i e o
  split at c
  ·rename_i a
   cases G:zxa rows with
   | none=>rw[G] at c;cases c
   | some l=>
     rw[G] at c
     injection c with c
     subst c
     obtain⟨S,i1,D,Q,K⟩:=jj Y
     obtain⟨T,i2,I,Z,y⟩:=jj (jl J (by simp))
     obtain⟨N,i3,r,R,F⟩:=jj (jl a (by simp))
     rw[K] at o
     rw[y] at J
     rw[F] at a
     cases S<;>try (cases o;done)
     cases T<;>try (cases J;done)
     cases N<;>try (cases a;done)
     injection o with o
     injection a with a
     subst o;subst a
     obtain⟨ns,E,C⟩:=Yv G
     refine⟨.string ⟨l.toArray⟩,?_,rfl⟩
     have O:∀i,A=some i->∀j u,(ns.map (Value.int .u8))[j]? =some u->w.cell? (i.add j)=some u:=λi U j u f=>by
      rw[zr] at f
      cases H:ns[j]? with
      | none=>rw[H] at f;cases f
      | some n=>
        rw[H] at f
        injection f with f
        subst f
        obtain⟨t,M,m,L,q⟩:=p.cell j 0 [.v (.int .u8 n)] (.v (.int .u8 n)) (by rw[E,zr,H];rfl) rfl
        rw[U] at m
        injection m with m
        subst m
        rw[Nat.mul_one,Nat.add_zero] at L
        have q:M= .int .u8 n:=q
        rw[L,q]
     have x:rows.length=ns.length:=by rw[E,zb]
     rw[X,run_convert_bytes_string w s d _ A rows.length k D r I]
     cases A with
     | none=>
       have h0:ns=[]:=by
        cases ns with
        | nil=>rfl
        | cons n ns=>
          obtain⟨t,M,m,_⟩:=p.cell 0 0 [.v (.int .u8 n)] (.v (.int .u8 n)) (by rw[E];rfl) rfl
          cases m
       rw[h0] at x C
       rw[x,C]
       rfl
     | some i=>
       have b:=run_loadCells_list (P:=P) w i (ns.map (Value.int .u8)) (O i rfl)
       rw[zb] at b
       rw[x,run_bytesToString w i ns.length k ns b,vDa,C]
       simp
  ·cases c
 ·cases c
theorem kKa{c:Ctx}:∀ {aZ:List AV} {y:AV} {vs:List Value} {v:Value},ARs c aZ vs->AR c y v->∀ {r:AV},qia y aZ=some r->∃u,(vs.foldlM Builtin.max2 v).run P w= .ok u w/\AR c r u
 | [],y,vs,v,e,a,r,h=>by
   have e:vs=[]:=e
   subst e
   have h:some y=some r:=by rw[<-h];unfold qia;rfl
   injection h with h;subst h
   exact⟨v,rfl,a⟩
 | z::aZ,y,vs,v,⟨u,q,g,b,f⟩,a,r,h=>by
   subst g
   unfold qia at h
   split at h
   ·rename_i heq;cases heq
   ·rename_i k p k' n j heq
    injection heq with h4 h5
    subst h4 h5
    have a:v= .int k p:=a
    have b:u= .int k' n:=b
    subst a b
    obtain⟨u,i,d⟩:=kKa (y:= .v (.int k (if n>p then n else p))) f rfl h
    exact⟨u,by simpa [List.foldlM_cons,Builtin.max2] using i,d⟩
   ·cases h
theorem kLa{c:Ctx}:∀ {aZ:List AV} {y:AV} {vs:List Value} {v:Value},ARs c aZ vs->AR c y v->∀ {r:AV},qja y aZ=some r->∃u,(vs.foldlM Builtin.min2 v).run P w= .ok u w/\AR c r u
 | [],y,vs,v,e,a,r,h=>by
   have e:vs=[]:=e
   subst e
   have h:some y=some r:=by rw[<-h];unfold qja;rfl
   injection h with h;subst h
   exact⟨v,rfl,a⟩
 | z::aZ,y,vs,v,⟨u,q,g,b,f⟩,a,r,h=>by
   subst g
   unfold qja at h
   split at h
   ·rename_i heq;cases heq
   ·rename_i k p k' n j heq
    injection heq with h4 h5
    subst h4 h5
    have a:v= .int k p:=a
    have b:u= .int k' n:=b
    subst a b
    obtain⟨u,i,d⟩:=kLa (y:= .v (.int k (if n<p then n else p))) f rfl h
    exact⟨u,by simpa [List.foldlM_cons,Builtin.min2] using i,d⟩
   ·cases h
theorem yca(F:HOk B w g h)(hB:B<=w.heap.size)(o:wK (ctx w g h) T a){c:Call}{ty:TypeId}(f:Zn P T h c=some (x,h')):
  Did P (do let d<-resolve a.eval c ty;invoke d.target d.args) B w g h x h':=by
 obtain⟨callee,args,argTypes⟩:=c
 obtain⟨args⟩:=args
 obtain⟨argTypes⟩:=argTypes
 unfold Zn at f
 split at f
 ·rename_i X t l b j
  simp only at l b j
  subst l b j
  split at f
  ·rename_i e s
   cases m:zZ h (ev T X) with
   | none=>rw[m] at f;cases f
   | some xs=>
     rw[m] at f
     injection f with f
     injection f with hx1 hx2
     subst hx1 hx2
     obtain⟨d,i,R,Q,eq⟩:=jj (jl s (by simp))
     rw[eq] at s
     cases d<;>try (cases s;done)
     obtain⟨A,k,p,C,_,_⟩:=vG F _ (jC o X) m
     refine⟨.value (.int .i64 xs.length),_,w,g,?_,.inl rfl,Good.refl F hB,rfl⟩
     simp[resolve,invoke,builtin,Builtin.len_,p,run_underlying R,goInt]
  ·cases f
 ·rename_i S X t U l b j
  simp only at l b j
  subst l b j
  split at f
  ·rename_i e s
   split at f
   ·rename_i L
    subst L
    obtain⟨v,w',g',W,J,O⟩:=xea (ty:=ty) F hB (jC o S) (jC o X) s f
    refine⟨.value v,v,w',g',?_,.inl rfl,J,O⟩
    simp[resolve,invoke,builtin,W]
   ·cases f
  ·cases f
 ·rename_i X t l b j
  simp only at l b j
  subst l b j
  split at f
  ·rename_i e s
   cases G:kp h (ev T X) with
   | none=>rw[G] at f;cases f
   | some q=>
     obtain⟨id,st,i,n⟩:=q
     rw[G] at f
     simp only[Option.bind_some] at f
     cases I:(zE P e).zero with
     | none=>rw[I] at f;cases f
     | some z=>
       rw[I] at f
       simp only[Option.bind_some] at f
       split at f
       ·rename_i H
        cases m:kT h id i e (zE P e).sz (List.replicate n (z.map .v)) with
        | none=>rw[m] at f;cases f
        | some J=>
          rw[m] at f
          injection f with f
          injection f with hx1 hx2
          subst hx1 hx2
          obtain⟨w',g',p,C⟩:=vBa (P:=P) (ty:=ty) F hB (jC o X) s G I H.1 H.2 m
          refine⟨.value (.tuple #[]),.tuple #[],w',g',?_,.inl rfl,C,⟨_,rfl,rfl⟩⟩
          simp[resolve,invoke,builtin,p]
       ·cases f
  ·cases f
 ·rename_i D X t U l b j
  simp only at l b j
  subst l b j
  split at f
  ·rename_i e s
   split at f
   ·rename_i H
    obtain⟨L,N,V⟩:=H
    subst L
    cases G:kp h (ev T D) with
    | none=>rw[G] at f;cases f
    | some q=>
      obtain⟨id,st,i,n⟩:=q
      rw[G] at f
      simp only[Option.bind_some] at f
      cases K:zZ h (ev T X) with
      | none=>rw[K] at f;cases f
      | some ys=>
        rw[K] at f
        simp only[Option.bind_some] at f
        cases m:kT h id i e (zE P e).sz (ys.take n) with
        | none=>rw[m] at f;cases f
        | some J=>
          rw[m] at f
          injection f with f
          injection f with hx1 hx2
          subst hx1 hx2
          obtain⟨w',g',p,C⟩:=w9a (P:=P) (ty:=ty) F hB (jC o D) (jC o X) s G K N V m
          refine⟨.value (.int .i64 ((ys.take n).length:Nat)),_,w',g',?_,.inl rfl,C,rfl⟩
          simp only[resolve,invoke,builtin]
          simp[p]
   ·cases f
  ·cases f
 ·rename_i M X r l b
  simp only at l b
  subst l b
  cases E:qia (ev T X) (evl T r) with
  | none=>rw[E] at f;cases f
  | some y=>
    rw[E] at f
    injection f with f
    injection f with hx1 hx2
    subst hx1 hx2
    obtain⟨u,p,C⟩:=kKa (P:=P) (w:=w) (ZK o r) (jC o X) E
    refine⟨.value u,u,w,g,?_,.inl rfl,Good.refl F hB,C⟩
    simp[resolve,invoke,builtin,Builtin.max_,p]
 ·rename_i M X r l b
  simp only at l b
  subst l b
  cases E:qja (ev T X) (evl T r) with
  | none=>rw[E] at f;cases f
  | some y=>
    rw[E] at f
    injection f with f
    injection f with hx1 hx2
    subst hx1 hx2
    obtain⟨u,p,C⟩:=kLa (P:=P) (w:=w) (ZK o r) (jC o X) E
    refine⟨.value u,u,w,g,?_,.inl rfl,Good.refl F hB,C⟩
    simp[resolve,invoke,builtin,Builtin.min_,p]
 ·cases f
theorem DidV.of{s:Sem Value}{t:Sem Next}(d:DidV P s B w g h x h')(e:t=(do pure (.value (<-s)))):Did P t B w g h x h':=e▸d.did
theorem jv{s:Sem Next}{v:Value}(a:HOk B w g h)(hB:B<=w.heap.size)(b:s.run P w= .ok (.value v) w)(c:AR (ctx w g h) x v):Did P s B w g h x h:=
 ⟨.value v,v,w,g,b,.inl rfl,Good.refl a hB,c⟩
theorem zBa(H:HOk B w g h)(hB:B<=w.heap.size)(G:wK (ctx w g h) T a)(o:Oper)(C:zW P T h o.op=some (x,h')):Did P (execOp a.eval o) B w g h x h':=by
 obtain⟨dst,op,type,pos,after,guard⟩:=o
 simp only at C
 have alloc:(jp P T op).map (λq=>(q.2 h.length,h++[q.1]))=some (x,h')->Did P (execOp a.eval ⟨dst,op,type,pos,after,guard⟩) B w g h x h':=λC=>by
  cases ha:jp P T op with
  | none=>rw[ha] at C;cases C
  | some q=>
    obtain⟨o,mk⟩:=q
    rw[ha] at C
    injection C with C
    injection C with hx1 hx2
    subst hx1 hx2
    obtain⟨v,w',V,m⟩:=Vt H hB G ha dst type pos after guard
    obtain⟨g',e2,e3⟩:=m.more H hB
    exact⟨.value v,v,w',g',V,.inl rfl,e2,e3⟩
 unfold zW at C
 split at C
 case h_1 y=>
  injection C with C;injection C with hx1 hx2;subst hx1 hx2
  exact jv H hB (by simp[execOp]) (jC G y)
 case h_2 y=>
  injection C with C;injection C with hx1 hx2;subst hx1 hx2
  exact jv H hB (by simp[execOp]) (jC G y)
 case h_3 c y z=>
  split at C
  ·rename_i t J
   injection C with C;injection C with hx1 hx2;subst hx1 hx2
   have e:=yB G J
   cases t
   ·exact jv H hB (v:=a.eval z) (by simp[execOp,e,asBool]) (jC G z)
   ·exact jv H hB (v:=a.eval y) (by simp[execOp,e,asBool]) (jC G y)
  ·cases C
 case h_4 t=>exact alloc C
 case h_5 t y=>exact alloc C
 case h_6 t n ps=>exact alloc C
 case h_7 t l c=>exact alloc C
 case h_8 t r=>exact alloc C
 case h_9 t ps=>
  split at C
  ·rename_i fs D
   split at C
   ·rename_i M
    cases hz:(zE P t).zero with
    | none=>rw[hz] at C;cases C
    | some z=>
      rw[hz] at C
      simp only[Option.bind_some] at C
      cases J:wJ (JA P fs) (z.map .v) (evs T ps.toList) with
      | none=>rw[J] at C;cases C
      | some cs=>
        rw[J] at C
        injection C with C;injection C with hx1 hx2;subst hx1 hx2
        exact(vza H hB G D M hz J).of rfl
   ·cases C
  ·rename_i m e D
   split at C
   ·rename_i M
    cases hz:(zE P t).zero with
    | none=>rw[hz] at C;cases C
    | some z=>
      rw[hz] at C
      simp only[Option.bind_some] at C
      cases J:wJ (yz (zE P e).sz) (z.map .v) (evs T ps.toList) with
      | none=>rw[J] at C;cases C
      | some cs=>
        rw[J] at C
        injection C with C;injection C with hx1 hx2;subst hx1 hx2
        exact(W0 H hB G D M hz J).of rfl
   ·cases C
  ·cases C
 case h_10 t p=>
  cases O:Qf h (zE P t) (ev T p) with
  | none=>rw[O] at C;cases C
  | some y=>
    rw[O] at C
    injection C with C;injection C with hx1 hx2;subst hx1 hx2
    exact(qoa H hB (jC G p) O).of rfl
 case h_11 t p y=>
  split at C
  ·rename_i ht
   cases J:(ev T y).cells with
   | none=>rw[J] at C;cases C
   | some ns=>
     rw[J] at C
     simp only[Option.bind_some] at C
     split at C
     ·rename_i O
      cases hs:yA h ns (ev T p) with
      | none=>rw[hs] at C;cases C
      | some h2=>
        rw[hs] at C
        injection C with C;injection C with hx1 hx2;subst hx1 hx2
        obtain⟨w',g',V,e2⟩:=vAa H hB (jC G p) (jC G y) ht J O hs
        exact⟨.skip,undef,w',g',by simp[execOp,V],.inr ⟨rfl,rfl⟩,e2,rfl⟩
     ·cases C
  ·cases C
 case h_12 y=>
  have E:=jC G y
  split at C
  ·rename_i id off K
   injection C with C;injection C with hx1 hx2;subst hx1 hx2
   rw[K] at E
   obtain⟨q,e⟩:=E
   exact jv H hB (v:=a.eval y) (by simp[execOp,e]) ⟨q,e⟩
  ·rename_i c e i k K
   injection C with C;injection C with hx1 hx2;subst hx1 hx2
   rw[K] at E
   obtain⟨A,m,cp,q1,q2,e⟩:=E
   exact jv H hB (v:=a.eval y) (by simp[execOp,e]) ⟨A,m,cp,q1,q2,e⟩
  ·rename_i f p q K
   injection C with C;injection C with hx1 hx2;subst hx1 hx2
   rw[K] at E
   obtain⟨us,vs,e,q⟩:=E
   exact jv H hB (v:=a.eval y) (by simp[execOp,e]) ⟨us,vs,e,q⟩
  ·cases C
 case h_13 op t y z _=>
  split at C
  ·rename_i hn
   cases hb:qka P h op t (ev T y) with
   | none=>rw[hb] at C;cases C
   | some r=>
     rw[hb] at C
     injection C with C;injection C with hx1 hx2;subst hx1 hx2
     exact(QBa H hB G hn hb).of rfl
  ·cases hb:w6a P op t (ev T y) (ev T z) with
   | none=>rw[hb] at C;cases C
   | some r=>
     rw[hb] at C
     injection C with C;injection C with hx1 hx2;subst hx1 hx2
     exact(QAa H hB G hb).of rfl
 case h_14 op _ y=>
  split at C
  ·rename_i k n K
   injection C with C;injection C with hx1 hx2;subst hx1 hx2
   have e:=yB G K
   exact jv H hB (by simp[execOp,e,Op.unary,Op.intArith]) rfl
  ·rename_i b K
   injection C with C;injection C with hx1 hx2;subst hx1 hx2
   have e:=yB G K
   exact jv H hB (by simp[execOp,e,Op.unary]) rfl
  ·cases C
 case h_15 s d y=>
  split at C
  ·rename_i k k' n hs hd K
   injection C with C;injection C with hx1 hx2;subst hx1 hx2
   have e:=yB G K
   obtain⟨d1,i1,hu1,hi1,eq1⟩:=jj hs
   obtain⟨d2,Z,Q,N,I⟩:=jj (jl hd (by simp))
   rw[I] at hd
   cases d2<;>try (cases hd;done)
   injection hd with hd
   subst hd
   refine jv H hB (v:= .int _ (IntKind.wrap _ n)) ?_ rfl
   simp[execOp,e,convert,run_underlying hu1,run_underlying Q,Conv.intToInt]
  ·rename_i rows hs hd K
   cases ο:w7a P s rows with
   | none=>rw[ο] at C;cases C
   | some z=>
     rw[ο] at C
     injection C with C;injection C with hx1 hx2;subst hx1 hx2
     have E:=jC G y
     rw[K] at E
     obtain⟨u,hr,eu⟩:=yba H E hs hd ο
     exact jv H hB (v:=u) (by simp[execOp,hr]) eu
  ·cases C
 case h_16 f p q=>
  injection C with C;injection C with hx1 hx2;subst hx1 hx2
  refine jv H hB (v:= .func f (p.map a.eval) (q.map a.eval)) (by simp[execOp,Instr.makeFunc]) ⟨_,_,rfl,?_,?_⟩
  ·simpa using ZK G p.toList
  ·simpa using ZK G q.toList
 case h_17 t y i=>
  have E:=jC G y
  split at C
  ·rename_i fs D
   cases M:fs[i]? with
   | none=>rw[M] at C;cases C
   | some f=>
     rw[M] at C
     simp only[Option.bind_some] at C
     split at C
     ·rename_i J
      obtain⟨d,ii,S,X,eq⟩:=jj (jl D (by simp))
      rw[eq] at D
      cases d<;>try (cases D;done)
      rename_i fields
      injection D with D
      obtain⟨d2,Z,Q,N,I⟩:=jj J.1
      have δ:Z.size≠0:=by have:=J.2;rw[I] at this;simp at this;omega
      rw[<-D,zr] at M
      cases U:fields.toList[i]? with
      | none=>rw[U] at M;cases M
      | some F=>
        rw[U] at M
        injection M with M
        subst M
        have W:fields[i]? =some F:=by simpa using U
        split at C
        ·rename_i id off K
         injection C with C;injection C with hx1 hx2;subst hx1 hx2
         rw[K] at E
         obtain⟨q,e⟩:=E
         refine jv H hB (v:= .pointer (some ⟨g.β id,off+F.offset,none⟩)) ?_ ⟨q,rfl⟩
         simp[execOp,e,Instr.fieldAt,run_underlying S,W,Instr.sureAddr,fieldPlace,sizeOf,typeInfo,N,δ,Addr.add_lit,ctx]
        ·rename_i c e' j k K
         injection C with C;injection C with hx1 hx2;subst hx1 hx2
         rw[K] at E
         obtain⟨A,m,cp,q1,q2,e⟩:=E
         refine jv H hB (v:= .pointer (some (A.add (j*e'+(k+F.offset))))) ?_ ⟨A,m,cp,q1,q2,rfl⟩
         simp[execOp,e,Instr.fieldAt,run_underlying S,W,Instr.sureAddr,fieldPlace,sizeOf,typeInfo,N,δ,Addr.add_add,Nat.add_assoc]
        ·cases C
     ·cases C
  ·cases C
 case h_19 t y i=>
  have E:=jC G y
  split at C
  ·rename_i e k n D K
   split at C
   ·rename_i J
    have V:=yB G K
    obtain⟨d,ii,S,X,eq⟩:=jj (jl D (by simp))
    rw[eq] at D
    cases d<;>try (cases D;done)
    injection D with D
    subst D
    obtain⟨d2,Z,Q,N,I⟩:=jj J.1
    cases L:xaa h n (ev T y) with
    | none=>rw[L] at C;cases C
    | some z=>
      rw[L] at C
      injection C with C;injection C with hx1 hx2;subst hx1 hx2
      unfold xaa at L
      cases hr:zZ h (ev T y) with
      | none=>rw[hr] at L;cases L
      | some xs=>
        rw[hr,J.2.2] at L
        simp only[Option.bind_some] at L
        split at L
        ·rename_i hn
         injection L with L
         subst L
         obtain⟨A,cp,q1,q2,q3,_⟩:=vG H _ E hr
         have hra:=q3 _ J.2.2
         have μ:n.toNat<xs.length:=by omega
         have hA:∃ad,A=some ad:=by
          have hrow:xs[n.toNat]? =some xs[n.toNat]:=zh μ
          have h0:=J.2.1
          have O:=hra.len _ (zw μ)
          obtain⟨ad,u,z1,_⟩:=hra.cell _ 0 _ (nth xs[n.toNat] 0) hrow (y6 (by omega))
          exact⟨ad,z1⟩
         obtain⟨ad,rfl⟩:=hA
         refine jv H hB (v:= .pointer (some (ad.add (n.toNat*Z.size)))) ?_ ⟨ad,xs.length,cp,by rw[<-q1];exact E,μ,by rw[I,Nat.add_zero]⟩
         simp[execOp,V,q1,Instr.indexAt,asIntOf,run_underlying S,sizeOf,typeInfo,N,hn.1,hn.2]
        ·cases L
   ·cases C
  ·rename_i m e k n D K
   split at C
   ·rename_i J
    obtain⟨c1,c2,c3⟩:=J
    have V:=yB G K
    obtain⟨d,ii,S,X,eq⟩:=jj (jl D (by simp))
    rw[eq] at D
    cases d<;>try (cases D;done)
    injection D with hk1 hk2
    subst hk1 hk2
    obtain⟨d2,Z,Q,N,I⟩:=jj c1
    split at C
    ·rename_i id off κ
     injection C with C;injection C with hx1 hx2;subst hx1 hx2
     rw[κ] at E
     obtain⟨q,e⟩:=E
     refine jv H hB (v:= .pointer (some ⟨g.β id,off+n.toNat*Z.size,none⟩)) ?_ ⟨q,by rw[I];rfl⟩
     simp[execOp,V,e,Instr.indexAt,asIntOf,run_underlying S,Instr.sureAddr,sizeOf,typeInfo,N,c2,c3,Addr.add_lit,ctx]
    ·rename_i c e' j k2 κ
     injection C with C;injection C with hx1 hx2;subst hx1 hx2
     rw[κ] at E
     obtain⟨A,m',cp,q1,q2,e⟩:=E
     refine jv H hB (v:= .pointer (some (A.add (j*e'+(k2+n.toNat*Z.size))))) ?_ ⟨A,m',cp,q1,q2,by rw[I]⟩
     simp[execOp,V,e,Instr.indexAt,asIntOf,run_underlying S,Instr.sureAddr,sizeOf,typeInfo,N,c2,c3,Addr.add_add,Nat.add_assoc]
    ·cases C
   ·cases C
  ·cases C
 case h_18 t y i=>
  have E:=jC G y
  split at C
  ·rename_i fs cs D K
   cases M:fs[i]? with
   | none=>rw[M] at C;cases C
   | some f=>
     rw[M] at C
     simp only[Option.bind_some] at C
     split at C
     ·rename_i ho
      obtain⟨d,ii,S,X,eq⟩:=jj (jl D (by simp))
      rw[eq] at D
      cases d<;>try (cases D;done)
      rename_i fields
      injection D with D
      rw[<-D,zr] at M
      cases U:fields.toList[i]? with
      | none=>rw[U] at M;cases M
      | some F=>
        rw[U] at M
        injection M with M
        subst M
        have W:fields[i]? =some F:=by simpa using U
        rw[K] at E
        obtain⟨vs,e,q⟩:=E
        cases hp:part cs F.offset (zE P F.type).agg (zE P F.type).sz with
        | none=>rw[hp] at C;cases C
        | some r=>
          rw[hp] at C
          injection C with C;injection C with hx1 hx2;subst hx1 hx2
          obtain⟨u,z1,z2⟩:=qta (P:=P) (w:=w) ho q hp
          exact jv H hB (v:=u) (by simp[execOp,e,Instr.field,run_underlying S,W,asAgg,z1]) z2
     ·cases C
  ·cases C
 case h_20 t y i=>
  have E:=jC G y
  split at C
  ·rename_i m e cs k n D K hi
   split at C
   ·rename_i J
    obtain⟨c1,c2,c3⟩:=J
    have V:=yB G hi
    obtain⟨d,ii,S,X,eq⟩:=jj (jl D (by simp))
    rw[eq] at D
    cases d<;>try (cases D;done)
    injection D with hk1 hk2
    subst hk1 hk2
    rename_i m e
    obtain⟨d2,Z,Q,N,I⟩:=jj c1
    rw[K] at E
    obtain⟨vs,ee,q⟩:=E
    cases hp:part cs (n.toNat*(zE P e).sz) (zE P e).agg (zE P e).sz with
    | none=>rw[hp] at C;cases C
    | some r=>
      rw[hp] at C
      injection C with C;injection C with hx1 hx2;subst hx1 hx2
      obtain⟨u,z1,z2⟩:=qta (P:=P) (w:=w) c1 q hp
      have δ:(zE P e).sz=Z.size:=by rw[I]
      rw[δ] at z1
      exact jv H hB (v:=u) (by simp[execOp,V,ee,Instr.index,asIntOf,run_underlying S,sizeOf,typeInfo,N,c2,c3,z1]) z2
   ·cases C
  ·cases C
 case h_21 t y lo hi=>
  split at C
  ·rename_i e D
   cases hr:zZ h (ev T y) with
   | none=>rw[hr] at C;cases C
   | some xs=>
     rw[hr] at C
     simp only[Option.bind_some] at C
     cases O:y8 T 0 lo with
     | none=>rw[O] at C;cases C
     | some l=>
       rw[O] at C
       simp only[Option.bind_some] at C
       cases hm:y8 T xs.length hi with
       | none=>rw[hm] at C;cases C
       | some m=>
         rw[hm] at C
         simp only[Option.bind_some] at C
         split at C
         ·rename_i J
          obtain⟨c1,c2,c3,c4,c5⟩:=J
          injection C with C;injection C with hx1 hx2;subst hx1 hx2
          exact(vCa H hB G D hr O hm c1 c2 c3 c4 c5).of rfl
         ·cases C
  ·cases C
 case h_22 t m k v=>
  split at C
  ·rename_i kt et id kk n D hm Y
   split at C
   ·rename_i kk' es R ho
    split at C
    ·rename_i heq
     subst heq
     cases hi:Qj kk' n (ev T v) es with
     | none=>rw[hi] at C;cases C
     | some es'=>
       rw[hi] at C
       injection C with C;injection C with hx1 hx2;subst hx1 hx2
       obtain⟨d,ii,S,X,eq⟩:=jj (jl D (by simp))
       rw[eq] at D
       cases d<;>try (cases D;done)
       injection D with hk1 hk2
       subst hk1 hk2
       obtain⟨d2,Z,Q,hin2,I⟩:=jj (jl R (by simp))
       rw[I] at R
       cases d2<;>try (cases R;done)
       have V:=yB G Y
       have E:=jC G m
       rw[hm] at E
       obtain⟨q,e2⟩:=E
       obtain⟨w',r1,r2⟩:=xfa (P:=P) H hB S Q ho (jC G v) hi
       refine⟨.skip,undef,w',g,?_,.inr ⟨rfl,rfl⟩,r2,rfl⟩
       simp only[execOp,V,e2]
       have e3:(ctx w g h).β id=g.β id:=rfl
       rw[e3,Sem.run_bind,r1]
       rfl
    ·cases C
   ·cases C
  ·cases C
 case h_23 t m k ok=>
  split at C
  ·rename_i kt et id kk n D hm Y
   split at C
   ·rename_i kk' es z R ho hz
    split at C
    ·rename_i heq
     subst heq
     cases O:qla kk' n z es with
     | none=>rw[O] at C;cases C
     | some p=>
       rw[O] at C
       injection C with C;injection C with hx1 hx2;subst hx1 hx2
       unfold qla at O
       split at O
       ·rename_i hko
        injection O with O
        subst O
        obtain⟨d,ii,S,X,eq⟩:=jj (jl D (by simp))
        rw[eq] at D
        cases d<;>try (cases D;done)
        injection D with hk1 hk2
        subst hk1 hk2
        obtain⟨d2,Z,Q,hin2,I⟩:=jj (jl R (by simp))
        rw[I] at R
        cases d2<;>try (cases R;done)
        have V:=yB G Y
        have E:=jC G m
        rw[hm] at E
        obtain⟨q,e2⟩:=E
        obtain⟨zu,z1,z2⟩:=yaa (P:=P) (w:=w) (c:=ctx w g h) hz
        obtain⟨p1,es0,k0,l',p2,p3,p4,p5⟩:=H.ok id _ ho
        obtain⟨u,u1,u2⟩:=Vx (P:=P) (n:=n) (ok:=ok) S Q p2 p3 p4 p5 hko z1 z2
        refine jv H hB (v:=u) ?_ u2
        simp only[execOp,V,e2,Sem.run_bind,u1]
        rfl
       ·cases O
    ·cases C
   ·cases C
  ·cases C
 case h_24 y i=>
  have E:=jC G y
  split at C
  ·rename_i cs K
   split at C
   ·rename_i hi
    injection C with C;injection C with hx1 hx2;subst hx1 hx2
    rw[K] at E
    obtain⟨vs,e,q⟩:=E
    obtain⟨u,q1,q2⟩:=vv q i hi
    have q1':vs[i]? =some u:=by simpa using q1
    exact jv H hB (v:=u) (by simp[execOp,e,Instr.extract,q1']) q2
   ·cases C
  ·cases C
 case h_25 c=>exact yca H hB G C
 case h_26=>cases C
end
section
variable {φ:Nat->Ob} {h h':List Ob} {P:Program} {x:AV} {T:Nat->AV} {i:Nat} {o:Ob}
theorem yC:∀(a:AV) {e:Nat},eOf h a=some e->eOf (fill φ h) a=some e
 | .sl _ _,_,b=>b
 | .tl id st,e,b=>by
   simp only[eOf] at b⊢
   split at b
   ·rename_i ty f ys s d
    rw[qy d rfl]
    exact b
   ·cases b
 | .vw a g i n,e,b=>by
   simp only[eOf] at b⊢
   cases c:eOf h a with
   | none=>rw[c] at b;cases b
   | some j=>rw[c] at b;rw[yC a c];exact b
 | .v _,_,b | .em,_,b | .ptr _ _,_,b | .ep _ _ _ _,_,b | .mp _,_,b | .ag _,_,b | .tup _,_,b | .fn _ _ _,_,b | .bad,_,b=>by cases b
theorem xx:∀(a:AV) {xs:List (List AV)},zZ h a=some xs->zZ (fill φ h) a=some xs
 | .sl _ _,_,b=>b
 | .em,_,b=>b
 | .tl id st,xs,b=>by
   simp only[zZ] at b⊢
   split at b
   ·rename_i ty g ys s f
    rw[qy f rfl]
    exact b
   ·cases b
 | .vw a e i n,xs,b=>by
   simp only[zZ] at b⊢
   cases c:zZ h a with
   | none=>rw[c] at b;cases b
   | some ys=>
     rw[c] at b
     rw[xx a c]
     simp only[Option.bind_some] at b⊢
     split at b
     ·rename_i d
      rw[if_pos ⟨d.1,d.2.imp id (yC a)⟩]
      exact b
     ·cases b
 | .v x,xs,b=>by
   unfold zZ at b⊢
   split at b
   ·rename_i heq;cases heq
   ·rename_i heq;cases heq
   ·rename_i heq;cases heq
   ·rename_i heq;cases heq;exact b
   ·rename_i heq;cases heq
   ·cases b
 | .ptr _ _,_,b | .ep _ _ _ _,_,b | .mp _,_,b | .ag _,_,b | .tup _,_,b | .fn _ _ _,_,b | .bad,_,b=>by cases b
theorem qua(a:AV)(b:JB h a=true):JB (fill φ h) a=true:=by
 unfold JB at b⊢
 rw[Bool.or_eq_true] at b⊢
 refine b.imp id λb=>?_
 cases c:zZ h a with
 | none=>rw[c] at b;cases b
 | some xs=>cases d:eOf h a with
   | none=>rw[c,d] at b;cases xs<;>cases b
   | some e=>rw[c,d] at b;rw[xx a c,yC a d];exact b
theorem vEa{op:BinOp}{t:TypeId}(a:AV)(b:qka P h op t a=some x):qka P (fill φ h) op t a=some x:=by
 unfold qka at b⊢
 cases e:(zE P t).kind<;>rw[e] at b<;>first
  | cases b;done
  | skip
 simp only at b⊢
 cases d:Qq a with
 | true=>rw[d] at b;exact b
 | false=>
   rw[d] at b
   simp only[Bool.false_eq_true,if_false] at b⊢
   split at b
   ·rename_i c
    rw[if_pos (qua _ c)];exact b
   ·cases b
theorem Vy{τ:Ty}:∀(a:AV),Qf h τ a=some x->Qf (fill φ h) τ a=some x
 | .ptr id off,b=>by
   simp only[Qf] at b⊢
   split at b
   ·rename_i f
    simp only[qy f rfl]
    exact b
   ·cases b
 | .ep a e i k,b=>by
   simp only[Qf] at b⊢
   split at b
   ·rename_i d
    rw[if_pos ⟨d.1,yC _ d.2⟩]
    cases c:zZ h a with
    | none=>rw[c] at b;cases b
    | some xs=>rw[c] at b;rw[xx _ c];exact b
   ·cases b
 | .sl _ _,b | .tl _ _,b | .em,b | .vw _ _ _ _,b | .v _,b | .mp _,b | .ag _,b | .tup _,b | .fn _ _ _,b | .bad,b=>by cases b
theorem vFa{n:Int}(a:AV)(b:xaa h n a=some x):xaa (fill φ h) n a=some x:=by
 unfold xaa at b⊢
 cases d:zZ h a with
 | none=>rw[d] at b;cases b
 | some xs=>
   rw[d] at b
   cases c:eOf h a with
   | none=>rw[c] at b;cases b
   | some e=>rw[c] at b;rw[xx a d,yC a c];exact b
theorem qva{ns:List AV}:∀(a:AV),yA h ns a=some h'->yA (fill φ h) ns a=some (fill φ h')/\ResK h h'
 | .ptr id off,b=>by
   simp only[yA] at b⊢
   split at b
   ·rename_i ty cs d
    simp only[qy d rfl]
    cases c:lay cs off ns with
    | none=>rw[c] at b;cases b
    | some cs'=>
      rw[c] at b
      injection b with b
      subst b
      exact⟨by rw[jB rfl];rfl,qH d rfl⟩
   ·cases b
 | .ep (.tl id st) e i k,b=>by
   simp only[yA] at b⊢
   split at b
   ·rename_i ty j xs s d
    simp only[qy d rfl]
    split at b
    ·rename_i f
     rw[if_pos f]
     cases hi:xs[i]? with
     | none=>rw[hi] at b;cases b
     | some r=>
       rw[hi] at b
       simp only[Option.bind_some] at b⊢
       cases c:lay r k ns with
       | none=>rw[c] at b;cases b
       | some g=>
         rw[c] at b
         injection b with b
         subst b
         exact⟨by rw[jB rfl];rfl,qH d rfl⟩
    ·cases b
   ·cases b
 | .ep (.sl _ _) _ _ _,b | .ep .em _ _ _,b | .ep (.vw _ _ _ _) _ _ _,b | .ep (.v _) _ _ _,b | .ep (.ptr _ _) _ _ _,b | .ep (.ep _ _ _ _) _ _ _,b | .ep (.mp _) _ _ _,b | .ep (.ag _) _ _ _,b | .ep (.tup _) _ _ _,b | .ep (.fn _ _ _) _ _ _,b | .ep .bad _ _ _,b=>by cases b
 | .sl _ _,b | .tl _ _,b | .em,b | .vw _ _ _ _,b | .v _,b | .mp _,b | .ag _,b | .tup _,b | .fn _ _ _,b | .bad,b=>by cases b
theorem zCa(g:Upto φ h.length){e:TypeId}(s y:AV)(a:ZJ P h e s y=some (x,h')):ZJ P (fill φ h) e s y=some (x,fill φ h')/\ResK h h':=by
 unfold ZJ at a⊢
 cases c:zZ h y with
 | none=>simp[c] at a
 | some ys=>
   rw[xx y c]
   simp only[c,Option.bind_some] at a⊢
   split at a
   ·rename_i f
    rw[if_pos f]
    split at a
    ·split at a
     ·rename_i id st ty i xs s d
      simp only[qy d rfl]
      split at a
      ·rename_i b
       rw[if_pos b]
       injection a with a
       injection a with h1 h2
       subst h1 h2
       exact⟨by rw[jB rfl],qH d rfl⟩
      ·cases a
     ·cases a
    ·split at a
     ·rename_i b
      simp only[if_pos b]
      injection a with a
      injection a with h1 h2
      subst h1 h2
      exact⟨by rw[jO g,qT],q8⟩
     ·cases a
    ·cases a
   ·cases a
theorem Xj{q:Nat × Nat × Nat × Nat}:∀(y:AV),kp h y=some q->kp (fill φ h) y=some q
 | .tl id st,a=>by
   simp only[kp] at a⊢
   split at a
   ·rename_i b;simp only[qy b rfl];exact a
   ·cases a
 | .vw (.tl id st) e i n,a=>by
   simp only[kp] at a⊢
   split at a
   ·rename_i b;simp only[qy b rfl];exact a
   ·cases a
 | .vw (.sl _ _) _ _ _,a | .vw .em _ _ _,a | .vw (.vw _ _ _ _) _ _ _,a | .vw (.v _) _ _ _,a | .vw (.ptr _ _) _ _ _,a | .vw (.ep _ _ _ _) _ _ _,a | .vw (.mp _) _ _ _,a | .vw (.ag _) _ _ _,a | .vw (.tup _) _ _ _,a | .vw (.fn _ _ _) _ _ _,a | .vw .bad _ _ _,a=>by cases a
 | .sl _ _,a | .em,a | .ptr _ _,a | .ep _ _ _ _,a | .v _,a | .mp _,a | .ag _,a | .tup _,a | .fn _ _ _,a | .bad,a=>by cases a
theorem Xk{id i ty e:Nat}{ys:List (List AV)}(a:kT h id i ty e ys=some h'):kT (fill φ h) id i ty e ys=some (fill φ h')/\ResK h h':=by
 unfold kT at a⊢
 split at a
 ·rename_i b
  simp only[qy b rfl]
  split at a
  ·rename_i c
   rw[if_pos c]
   injection a with a
   subst a
   exact⟨by rw[jB rfl],qH b rfl⟩
  ·cases a
 ·cases a
theorem xga(r:Upto φ h.length)(c:Call)(a:Zn P T h c=some (x,h')):Zn P T (fill φ h) c=some (x,fill φ h')/\ResK h h':=by
 unfold Zn at a⊢
 split at a
 ·split at a
  ·rename_i e f
   cases d:zZ h (ev T _) with
   | none=>rw[d] at a;cases a
   | some xs=>
     rw[d] at a
     injection a with a;injection a with h1 b;subst h1 b
     simp only[f,xx _ d]
     exact⟨rfl,.refl⟩
  ·cases a
 ·split at a
  ·rename_i e f
   split at a
   ·rename_i s
    simp only[f,if_pos s]
    exact zCa r _ _ a
   ·cases a
  ·cases a
 ·split at a
  ·rename_i e f
   cases g:kp h (ev T _) with
   | none=>rw[g] at a;cases a
   | some q=>
     obtain⟨id,st,i,n⟩:=q
     rw[g] at a
     simp only[Option.bind_some] at a
     cases o:(zE P e).zero with
     | none=>rw[o] at a;cases a
     | some z=>
       rw[o] at a
       simp only[Option.bind_some] at a
       split at a
       ·rename_i p
        cases d:kT h id i e (zE P e).sz (List.replicate n (z.map .v)) with
        | none=>rw[d] at a;cases a
        | some b=>
          rw[d] at a
          injection a with a;injection a with h1 b;subst h1 b
          obtain⟨m,l⟩:=Xk (φ:=φ) d
          simp only[f,Xj _ g,Option.bind_some,o,if_pos p,m]
          exact⟨rfl,l⟩
       ·cases a
  ·cases a
 ·split at a
  ·rename_i e f
   split at a
   ·rename_i p
    cases g:kp h (ev T _) with
    | none=>rw[g] at a;cases a
    | some q=>
      obtain⟨id,st,i,n⟩:=q
      rw[g] at a
      simp only[Option.bind_some] at a
      cases k:zZ h (ev T _) with
      | none=>rw[k] at a;cases a
      | some ys=>
        rw[k] at a
        simp only[Option.bind_some] at a
        cases d:kT h id i e (zE P e).sz (ys.take n) with
        | none=>rw[d] at a;cases a
        | some b=>
          rw[d] at a
          injection a with a;injection a with h1 b;subst h1 b
          obtain⟨m,l⟩:=Xk (φ:=φ) d
          simp only[f,if_pos p,Xj _ g,Option.bind_some,xx _ k,m]
          exact⟨rfl,l⟩
   ·cases a
  ·cases a
 ·cases j:qia _ _ with
  | none=>rw[j] at a;cases a
  | some y=>
    rw[j] at a
    injection a with a;injection a with h1 b;subst h1 b
    exact⟨rfl,.refl⟩
 ·cases j:qja _ _ with
  | none=>rw[j] at a;cases a
  | some y=>
    rw[j] at a
    injection a with a;injection a with h1 b;subst h1 b
    exact⟨rfl,.refl⟩
 ·cases a
theorem qwa{op:Op}{mk:Nat->AV}(a:jp P T op=some (o,mk)):o.isRes=false:=by
 unfold jp at a
 repeat' split at a
 all_goals first
  | cases a;done
  | (simp only[Option.map_eq_some_iff,Prod.mk.injEq] at a;obtain⟨_,_,rfl,_⟩:=a;rfl)
  | (injection a with a;injection a with h1 h2;subst h1;rfl)
theorem xn{α:Type}{y:Option α}{f:α->AV}(b:(y.map λa=>(f a,h))=some (x,h')):∃a,y=some a/\f a=x/\h=h':=by
 cases y with
 | none=>cases b
 | some a=>injection b with b;injection b with h1 h2;exact⟨a,rfl,h1,h2⟩
theorem Za(I:Upto φ h.length)(op:Op)(b:zW P T h op=some (x,h')):zW P T (fill φ h) op=some (x,fill φ h')/\ResK h h':=by
 have alloc:∀s,(jp P T s).map (λq=>(q.2 h.length,h++[q.1]))=some (x,h')->(jp P T s).map (λq=>(q.2 (fill φ h).length,fill φ h++[q.1]))=some (x,fill φ h')/\ResK h h':=λs b=>by
  cases J:jp P T s with
  | none=>rw[J] at b;cases b
  | some q=>
    rw[J] at b
    injection b with b;injection b with g d;subst g d
    exact⟨by rw[jO I,qT];rfl,q8⟩
 have same:∀ {y:AV},some (y,h)=some (x,h')->some (y,fill φ h)=some (x,fill φ h')/\ResK h h':=λe=>by
  injection e with e;injection e with g d;subst g d;exact⟨rfl,.refl⟩
 cases op with
 | move y=>exact same b
 | assign y=>exact same b
 | makeFunc f p q=>exact same b
 | alloc t=>exact alloc _ b
 | box t y=>exact alloc _ b
 | buildSlice t n E=>exact alloc _ b
 | makeSlice t l c=>exact alloc _ b
 | makeMap t r=>exact alloc _ b
 | call c=>exact xga I c b
 | load t y=>
   obtain⟨a,g,d,o⟩:=xn b
   subst d o
   exact⟨by simp only[zW,Vy _ g];rfl,.refl⟩
 | store t y z=>
   simp only[zW] at b⊢
   split at b
   ·rename_i O
    cases j:(ev T z).cells with
    | none=>rw[j] at b;cases b
    | some ns=>
      rw[j] at b
      simp only[Option.bind_some] at b
      split at b
      ·rename_i w
       cases G:yA h ns (ev T y) with
       | none=>rw[G] at b;cases b
       | some d=>
         rw[G] at b
         injection b with b;injection b with g d;subst g d
         obtain⟨N,L⟩:=qva (φ:=φ) _ G
         exact⟨by simp only[if_pos O,j,Option.bind_some,if_pos w,N];rfl,L⟩
      ·cases b
   ·cases b
 | binOp op t y z u=>
   simp only[zW] at b⊢
   split at b
   ·rename_i F
    obtain⟨a,g,d,o⟩:=xn b
    subst d o
    exact⟨by simp only[if_pos F,vEa _ g];rfl,.refl⟩
   ·rename_i F
    obtain⟨a,g,d,o⟩:=xn b
    subst d o
    exact⟨by simp only[if_neg F,g];rfl,.refl⟩
 | indexAddr t y z=>
   simp only[zW] at b⊢
   split at b
   ·split at b
    ·rename_i j
     obtain⟨a,g,d,o⟩:=xn b
     subst d o
     exact⟨by simp only[if_pos (show _/\_/\_ from⟨j.1,j.2.1,yC (φ:=φ) _ j.2.2⟩),vFa _ g];rfl,.refl⟩
    ·cases b
   ·split at b
    ·rename_i j
     simp only[if_pos j]
     split at b
     ·exact same b
     ·exact same b
     ·cases b
    ·cases b
   ·cases b
 | slice t y lo hi K=>
   cases K with
   | some m=>cases b
   | none=>
     simp only[zW] at b⊢
     split at b
     ·rename_i e Q
      cases C:zZ h (ev T y) with
      | none=>rw[C] at b;cases b
      | some xs=>
        rw[C] at b
        simp only[xx _ C,Option.bind_some] at b⊢
        cases w:y8 T 0 lo with
        | none=>rw[w] at b;cases b
        | some l=>
          rw[w] at b
          simp only[Option.bind_some] at b⊢
          cases H:y8 T xs.length hi with
          | none=>rw[H] at b;cases b
          | some m=>
            rw[H] at b
            simp only[Option.bind_some] at b⊢
            split at b
            ·rename_i j
             rw[if_pos ⟨j.1,j.2.1,j.2.2.1,j.2.2.2.1,j.2.2.2.2.imp id λk=>⟨k.1,yC _ k.2⟩⟩]
             exact same b
            ·cases b
     ·cases b
 | insert t m k v=>
   simp only[zW] at b⊢
   split at b
   ·split at b
    ·rename_i kk' es A B
     simp only[qy B rfl]
     split at b
     ·rename_i heq
      simp only[A,if_pos heq]
      cases hi:Qj _ _ (ev T v) es with
      | none=>rw[hi] at b;cases b
      | some es'=>
        rw[hi] at b
        injection b with b;injection b with g d;subst g d
        exact⟨by rw[jB rfl];rfl,qH B rfl⟩
     ·cases b
    ·cases b
   ·cases b
 | lookup t m k ok=>
   simp only[zW] at b⊢
   split at b
   ·split at b
    ·rename_i kk' es z A B M
     simp only[qy B rfl,M]
     split at b
     ·rename_i heq
      simp only[A,if_pos heq]
      cases w:qla _ _ z es with
      | none=>rw[w] at b;cases b
      | some p=>
        rw[w] at b
        exact same b
     ·cases b
    ·cases b
   ·cases b
 | build t E=>
   have h0:∀h,zW P T h (.build t E)=(zW P T [] (.build t E)).map λq=>(q.1,h):=λh=>by
    simp only[zW]
    split
    ·split
     ·cases (zE P t).zero with
      | none=>rfl
      | some z=>simp only[Option.bind_some];cases wJ _ _ _<;>rfl
     ·rfl
    ·split
     ·cases (zE P t).zero with
      | none=>rfl
      | some z=>simp only[Option.bind_some];cases wJ _ _ _<;>rfl
     ·rfl
    ·rfl
   rw[h0] at b⊢
   obtain⟨a,g,d,o⟩:=xn b
   subst d o
   exact⟨by rw[g];rfl,.refl⟩
 | fieldAddr t y i=>
   have h0:∀h,zW P T h (.fieldAddr t y i)=(zW P T [] (.fieldAddr t y i)).map λq=>(q.1,h):=λh=>by
    simp only[zW]
    split
    ·rename_i D _
     cases D[i]? with
     | none=>rfl
     | some f=>
       simp only[Option.bind_some]
       split
       ·split<;>rfl
       ·rfl
    ·rfl
   rw[h0] at b⊢
   obtain⟨a,g,d,o⟩:=xn b
   subst d o
   exact⟨by rw[g];rfl,.refl⟩
 | field t y i=>
   have h0:∀h,zW P T h (.field t y i)=(zW P T [] (.field t y i)).map λq=>(q.1,h):=λh=>by
    simp only[zW]
    split
    ·rename_i D _ _ _
     cases D[i]? with
     | none=>rfl
     | some f=>
       simp only[Option.bind_some]
       split
       ·cases part _ _ _ _<;>rfl
       ·rfl
    ·rfl
   rw[h0] at b⊢
   obtain⟨a,g,d,o⟩:=xn b
   subst d o
   exact⟨by rw[g];rfl,.refl⟩
 | _=>
   simp only[zW] at b⊢
   try cases b
   all_goals (repeat' split at b)
   all_goals first
    | cases b;done
    | exact same b
    | (obtain⟨a,g,d,o⟩:=xn b;subst d o;exact⟨by simp only[g];rfl,.refl⟩)
    | (rename_i j;rw[if_pos j];exact same b)
    | (rename_i j;rw[if_neg j];exact same b)
    | (rename_i j;rw[if_pos j];obtain⟨a,g,d,o⟩:=xn b;subst d o;exact⟨by simp only[g];rfl,.refl⟩)
end
