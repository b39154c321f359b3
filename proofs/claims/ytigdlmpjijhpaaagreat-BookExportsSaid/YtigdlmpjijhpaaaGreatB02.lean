import Derived.Test.YtigdlmpjijhpaaaGreatBA
import Derived.Test.YtigdlmpjijhpaaaGreatB01
import Derived.Laws.Pointers
import Derived.WalkSpells
import Derived.ChangeKeysEq
import Derived.Laws.BytesString
import Derived.Laws.Cells
set_option linter.all false
namespace Go.Proofs.YtigdlmpjijhpaaaGreat.Ax
open Go Go.RowKit
section
variable {B:Nat} {w:World} {g:Gh} {h h':List Ob} {P:Program} {x:AV} {T:Nat->AV} {a:Act}
theorem Ku(d:Nat):∀(l:List Field) (o:Nat) (xs ys:List AV) (us vs:List Value) (U V:Array Value) (r:Bool),
  w9 P o (l.map λf=>(f.offset,f.type))=true->(l.all λf=>f.name != "_")=true->xs.length=l.length->kH xs ys=some r->ARs (ctx w g h) xs us->ARs (ctx w g h) ys vs->
  (∀j,us[j]? =U[o+j]?)->(∀j,vs[j]? =V[o+j]?)->(Op.eqFields (d+1) U V l).run P w= .ok r w
 | [],o,xs,ys,us,vs,U,V,r,_,_,t,a,_,_,_,_=>by
   have:xs=[]:=zC t
   subst this
   cases ys with
   | nil=>injection a with a;subst a;simp[Op.eqFields]
   | cons y ys=>cases a
 | f::l,o,xs,ys,us,vs,U,V,r,hi,C,t,a,R,O,J,K=>by
   cases xs with
   | nil=>cases t
   | cons x xs=>
     cases ys with
     | nil=> cases x<;>try (cases a;done)
             rename_i v;cases v<;>cases a
     | cons y ys=>
       cases x<;>try (cases a;done)
       rename_i x
       cases x<;>try (cases a;done)
       rename_i k m
       cases y<;>try (cases a;done)
       rename_i y
       cases y<;>try (cases a;done)
       rename_i k' s
       simp only[kH] at a
       split at a
       ·rename_i Q
        subst Q
        cases z:kH xs ys with
        | none=>rw[z] at a;cases a
        | some T=>
          rw[z] at a
          injection a with a
          obtain⟨u,B,I,e,A⟩:=R
          obtain⟨v,vs',D,i,F⟩:=O
          have e:u= .int k m:=e
          have i:v= .int k s:=i
          subst e i I D
          simp only[List.map_cons,w9,zl,beq_iff_eq] at hi
          obtain⟨⟨L,q⟩,hi⟩:=hi
          simp only[List.all_cons,zl] at C
          cases b:(zO P f.type).kind<;>rw[b] at q<;>try (cases q;done)
          rename_i kk
          obtain⟨S,ii,c,N,eq⟩:=jt (jx b (by simp))
          rw[eq] at b
          cases S<;>try (cases b;done)
          rename_i k2
          have p:=J 0
          have n:=K 0
          simp only[List.getElem?_cons_zero,Nat.add_zero] at p n
          have G:(_root_.Go.part f.type U f.offset).run P w= .ok (.int k m) w:=by
           simp[Go.part,isAgg,run_underlying c,L, <-p]
          have E:(_root_.Go.part f.type V f.offset).run P w= .ok (.int k s) w:=by
           simp[Go.part,isAgg,run_underlying c,L, <-n]
          have M:=Ku d l (o+1) xs ys B vs' U V T hi C.2 (by simpa using t) z A F
           (λj=>by have:=J (j+1);rw[show o+1+j=o+(j+1) by omega];simpa using this) (λj=>by have:=K (j+1);rw[show o+1+j=o+(j+1) by omega];simpa using this)
          have H:f.name≠ "_" :=by simpa using C.1
          simp only[Op.eqFields,H,ne_eq,not_false_eq_true,if_true,Sem.run_bind,G,E,Result.andThen_ok,run_equalIn_int w d f.type k k2 m s c,Sem.run_ite,Sem.run_pure,M]
          cases W:(m==s)<;>simp[<-a,W]
       ·cases a
theorem Vn(o:wF (ctx w g h) T a){t:TypeId}{X Y:Operand}{xs ys:List AV}{m:List (Nat × TypeId)}{b:Bool}(x:ev T X= .ag xs)(r:ev T Y= .ag ys)(c:(zO P t).kind= .struct m)(e:xu P t=true)(hi:w9 P 0 m=true)(u:xs.length=m.length)(q:kH xs ys=some b):
  ∃U V,a.eval X= .agg U/\a.eval Y= .agg V/\(Op.equalIn 10000 t (.agg U) (.agg V)).run P w= .ok b w/\P.eqGuardType P.depth t=false:=by
 have f:=jL o X
 have k:=jL o Y
 rw[x] at f
 rw[r] at k
 obtain⟨U,s,f⟩:=f
 obtain⟨V,p,k⟩:=k
 obtain⟨d,i,n,v,eq⟩:=jt (jx c (by simp))
 rw[eq] at c
 cases d<;>try (cases c;done)
 rename_i fields
 injection c with c
 simp only[xu,zl,Bool.not_eq_true'] at e
 have l:P.fieldsOf t=fields:=by simp[Program.fieldsOf,n]
 rw[l] at e
 refine⟨U,V,s,p,?_,e.1.1⟩
 rw[run_equalIn_struct (P:=P) w 9999 t U V (by rw[l];exact n) e.1.2,l]
 exact Ku (g:=g) (h:=h) 9998 fields.toList 0 xs ys U.toList V.toList U V b (by rw[<-c] at hi;exact hi) e.2 (by rw[u, <-c];simp) q f k (λj=>by simp) (λj=>by simp)
theorem Wa(d:Nat){e:TypeId}{k2:IntKind}(b:P.underlying e=some (.int k2)):∀(xs ys:List AV) (o:Nat) (us vs:List Value) (U V:Array Value) (r:Bool),kH xs ys=some r->ARs (ctx w g h) xs us->ARs (ctx w g h) ys vs->(∀j,us[j]? =U[o+j]?)->(∀j,vs[j]? =V[o+j]?)->
  (Op.eqItems (d+1) e 1 U V (List.range' o xs.length)).run P w= .ok r w
 | [],ys,o,us,vs,U,V,r,a,G,F,p,z=>by
   cases ys with
   | nil=>injection a with a;subst a;rfl
   | cons y ys=>cases a
 | x::xs,ys,o,us,vs,U,V,r,a,G,F,p,z=>by
   cases ys with
   | nil=> cases x<;>try (cases a;done)
           rename_i v;cases v<;>cases a
   | cons y ys=>
     cases x<;>try (cases a;done)
     rename_i x
     cases x<;>try (cases a;done)
     rename_i k m
     cases y<;>try (cases a;done)
     rename_i y
     cases y<;>try (cases a;done)
     rename_i k' n
     simp only[kH] at a
     split at a
     ·rename_i I
      subst I
      cases q:kH xs ys with
      | none=>rw[q] at a;cases a
      | some J=>
        rw[q] at a
        injection a with a
        obtain⟨u,t,E,c,s⟩:=G
        obtain⟨v,vs',A,f,C⟩:=F
        have c:u= .int k m:=c
        have f:v= .int k n:=f
        subst c f E A
        have l:=p 0
        have i:=z 0
        simp only[List.getElem?_cons_zero,Nat.add_zero] at l i
        have D:(_root_.Go.part e U (o*1)).run P w= .ok (.int k m) w:=by
         simp[Go.part,isAgg,run_underlying b, <-l]
        have B:(_root_.Go.part e V (o*1)).run P w= .ok (.int k n) w:=by
         simp[Go.part,isAgg,run_underlying b, <-i]
        have H:=Wa d b xs ys (o+1) t vs' U V J q s C
         (λj=>by have:=p (j+1);rw[show o+1+j=o+(j+1) by omega];simpa using this) (λj=>by have:=z (j+1);rw[show o+1+j=o+(j+1) by omega];simpa using this)
        rw[List.length_cons,List.range'_succ]
        simp only[Op.eqItems,Sem.run_bind,D,B,Result.andThen_ok,run_equalIn_int w d e k k2 m n b,Sem.run_ite,Sem.run_pure,H]
        cases K:(m==n)<;>simp[<-a,K]
     ·cases a
theorem Yha(y:wF (ctx w g h) T a){t e:TypeId}{n:Nat}{X Y:Operand}{xs ys:List AV}{b:Bool}(D:ev T X= .ag xs)(G:ev T Y= .ag ys)(p:(zO P t).kind= .arr n e)(x:xu P t=true)(hi:Kza P e=true)(I:xs.length=n)(z:kH xs ys=some b):
  ∃U V,a.eval X= .agg U/\a.eval Y= .agg V/\(Op.equalIn 10000 t (.agg U) (.agg V)).run P w= .ok b w/\P.eqGuardType P.depth t=false:=by
 have q:=jL y X
 have o:=jL y Y
 rw[D] at q
 rw[G] at o
 obtain⟨U,C,q⟩:=q
 obtain⟨V,E,o⟩:=o
 obtain⟨d,i,F,A,eq⟩:=jt (jx p (by simp))
 rw[eq] at p
 cases d<;>try (cases p;done)
 rename_i n' v
 injection p with hk1 hk2
 subst hk1
 subst hk2
 simp only[xu,zl,Bool.not_eq_true'] at x
 simp only[Kza,zl,beq_iff_eq] at hi
 obtain⟨l,c⟩:=hi
 cases f:(zO P v).kind<;>rw[f] at l<;>try (cases l;done)
 rename_i k
 obtain⟨B,H,s,m,u⟩:=jt (jx f (by simp))
 rw[u] at f c
 cases B<;>try (cases f;done)
 have r:P.cellsOf v=1:=by
  have c:H.size=1:=c
  simp[Program.cellsOf,m,c]
 refine⟨U,V,C,E,?_,x.1.1⟩
 rw[run_equalIn_array (P:=P) w 9999 U V F m,r,List.range_eq_range', <-I]
 exact Wa (g:=g) (h:=h) 9998 s xs ys 0 U.toList V.toList U V b z q o (λj=>by simp) (λj=>by simp)
theorem KCa(z:HOk B w g h)(hB:B<=w.heap.size)(s:wF (ctx w g h) T a){op:BinOp}{t:TypeId}{X Y:Operand}(c:QUa P op t (ev T X) (ev T Y)=some x):
  DidV P (do eqGuard op t X Y (a.eval X) (a.eval Y);binOp op t (a.eval X) (a.eval Y)) B w g h x h:=by
 unfold QUa at c
 split at c
 ·rename_i k m k' n r u
  have j:=Zc s r
  have l:=Zc s u
  have H:(eqGuard op t X Y (.int k m) (.int k' n)).run P w= .ok () w:=by cases op<;>simp[eqGuard]
  split at c
  ·split at c
   ·rename_i I
    have G:¬ n<0:=by omega
    rw[j,l]
    cases op<;>simp only[vpa] at c<;>first
     | cases c;done
     | (injection c with c
        subst c
        refine jG z hB ?_ rfl
        simp[H,binOp,Op.shift,G]
        done)
   ·cases c
  ·rename_i J
   split at c
   ·rename_i f
    subst f
    rw[j,l]
    cases op<;>simp only[vqa] at c<;>first
     | cases c;done
     | (injection c with c;subst c
        refine jG z hB ?_ rfl
        simp[H,binOp,Op.intArith,Op.intCmp,Op.intDiv,Op.intBits]
        done)
     | (split at c
        ·cases c
        ·rename_i I
         injection c with c
         subst c
         refine jG z hB ?_ rfl
         simp[H,binOp,Op.intDiv,I])
   ·cases c
 ·rename_i p q r u
  have j:=Zc s r
  have l:=Zc s u
  split at c
  ·rename_i f
   injection c with c
   subst c
   obtain⟨d,i,C,A,eq⟩:=jt (jx f (by simp))
   rw[eq] at f
   cases d<;>try (cases f;done)
   rw[j,l]
   refine jG z hB ?_ rfl
   simp[eqGuard,binOp,Op.equal,Op.maxDepth,run_equalIn_bool' w 9999 t p q C]
  ·rename_i f
   injection c with c
   subst c
   obtain⟨d,i,C,A,eq⟩:=jt (jx f (by simp))
   rw[eq] at f
   cases d<;>try (cases f;done)
   rw[j,l]
   refine jG z hB ?_ rfl
   simp[eqGuard,binOp,Op.equal,Op.maxDepth,run_equalIn_bool' w 9999 t p q C]
  ·cases c
 ·rename_i xs ys r u
  split at c
  ·rename_i K f
   split at c
   ·rename_i o
    simp only[zl,beq_iff_eq] at o
    cases v:kH xs ys with
    | none=>rw[v] at c;cases c
    | some b=>
      rw[v] at c
      injection c with c
      subst c
      obtain⟨U,V,j,l,D,E⟩:=Vn s r u f o.1.1 o.1.2 o.2 v
      rw[j,l]
      refine jG z hB ?_ rfl
      simp only[Sem.run_bind,run_eqGuard_agg w _ t X Y U V E,Result.andThen_ok,run_eql_struct,D]
   ·cases c
  ·rename_i K f
   split at c
   ·rename_i o
    simp only[zl,beq_iff_eq] at o
    cases v:kH xs ys with
    | none=>rw[v] at c;cases c
    | some b=>
      rw[v] at c
      injection c with c
      subst c
      obtain⟨U,V,j,l,D,E⟩:=Vn s r u f o.1.1 o.1.2 o.2 v
      rw[j,l]
      refine jG z hB ?_ rfl
      simp only[Sem.run_bind,run_eqGuard_agg w _ t X Y U V E,Result.andThen_ok,run_neq_struct,D]
   ·cases c
  ·rename_i n e f
   split at c
   ·rename_i o
    simp only[zl,beq_iff_eq] at o
    cases v:kH xs ys with
    | none=>rw[v] at c;cases c
    | some b=>
      rw[v] at c
      injection c with c
      subst c
      obtain⟨U,V,j,l,D,E⟩:=Yha s r u f o.1.1 o.1.2 o.2 v
      rw[j,l]
      refine jG z hB ?_ rfl
      simp only[Sem.run_bind,run_eqGuard_agg w _ t X Y U V E,Result.andThen_ok,run_eql_struct,D]
   ·cases c
  ·cases c
 ·rename_i r u
  have j:=Zc s r
  have l:=Zc s u
  split at c
  all_goals first|cases c;done|skip
  all_goals
   rename_i f
   injection c with c
   subst c
   obtain⟨d,i,C,A,eq⟩:=jt (jx f (by simp))
   rw[eq] at f
   cases d<;>try (cases f;done)
   rw[j,l]
   refine jG z hB ?_ rfl
   have y:P.underlying t=some (.pointer (P.pointee t)):=by simp[Program.pointee,C]
   simp[eqGuard,run_eql_pointer_nil w t _ y,run_neq_pointer_nil w t _ y]
 ·rename_i id off r u
  have F:=jL s X
  rw[r] at F
  obtain⟨_,j⟩:=F
  have l:=Zc s u
  split at c
  all_goals first|cases c;done|skip
  all_goals
   rename_i f
   injection c with c
   subst c
   obtain⟨d,i,C,A,eq⟩:=jt (jx f (by simp))
   rw[eq] at f
   cases d<;>try (cases f;done)
   rw[j,l]
   refine jG z hB ?_ rfl
   have y:P.underlying t=some (.pointer (P.pointee t)):=by simp[Program.pointee,C]
   simp[eqGuard,run_eql_pointer_nil w t _ y,run_neq_pointer_nil w t _ y]
 ·rename_i p q r u
  have j:=Zc s r
  have l:=Zc s u
  rw[j,l]
  cases op<;>simp only at c<;>first
   | cases c;done
   | (injection c with c
      subst c
      refine jG z hB ?_ rfl
      simp[eqGuard,binOp,Op.stringOp])
 ·cases c
theorem xsa(m:HOk B w g h){y:AV}{u:Value}(a:XM h y=true)(c:AR (ctx w g h) y u):∃A n k,u= .slice (some A) n k:=by
 unfold XM at a
 rw[Bool.or_eq_true] at a
 rcases a with a|a
 ·unfold Yfa at a
  split at a
  ·obtain⟨A,k,e⟩:=c;exact⟨A,0,k,e⟩
  ·cases a
 ·unfold jqa at a
  split at a
  ·rename_i r rs e d i
   simp only[decide_eq_true_eq] at a
   obtain⟨A,k,l,p,f,_⟩:=wu m _ c d
   have b:=f e i
   have s:=b.len r (by simp)
   obtain⟨o,q,j,_⟩:=b.cell 0 0 r (nth r 0) rfl (ZS (by omega))
   subst j
   exact⟨o,_,_,l⟩
  ·cases a
theorem KDa(s:HOk B w g h)(hB:B<=w.heap.size)(C:wF (ctx w g h) T a){op:BinOp}{t:TypeId}{X Y:Operand}(q:J7 Y=true)(j:xma P h op t (ev T X)=some x):
  DidV P (do eqGuard op t X Y (a.eval X) (a.eval Y);binOp op t (a.eval X) (a.eval Y)) B w g h x h:=by
 have z:∃n c,a.eval Y= .slice none n c:=by
  unfold J7 at q
  split at q
  ·exact⟨_,_,rfl⟩
  ·cases q
 obtain⟨n,c,y⟩:=z
 rw[y]
 unfold xma at j
 split at j
 ·rename_i e r
  obtain⟨d,i,u,D,eq⟩:=jt (jx r (by simp))
  rw[eq] at r
  cases d<;>try (cases r;done)
  have key:∀A m k b,a.eval X= .slice A m k->A.isNone=b->Yb op b=some x->DidV P (do eqGuard op t X Y (a.eval X) (.slice none n c);binOp op t (a.eval X) (.slice none n c)) B w g h x h:=λA m k b l v f=>by
   rw[l]
   cases op<;>simp only[Yb] at f<;>first
    | cases f;done
    | skip
   ·injection f with f
    subst f
    refine jG s hB ?_ rfl
    simp[eqGuard,Lib.run_eql_slice_nil w t _ A m k n c u,v]
   ·injection f with f
    subst f
    refine jG s hB ?_ rfl
    simp[eqGuard,run_neq_slice_nil_any w t _ A m k n c u,v]
  have o:=jL C X
  split at j
  ·rename_i p
   unfold vu at p
   split at p
   ·rename_i m k l
    rw[l] at o
    have o:a.eval X= .slice none m k:=o
    exact key none m k true o rfl j
   ·cases p
  ·split at j
   ·rename_i E
    obtain⟨A,m,k,l⟩:=xsa s E o
    exact key (some A) m k false l rfl j
   ·cases j
 ·cases j
end
section
variable {B:Nat} {w:World} {g:Gh} {h h':List Ob} {P:Program} {x:AV} {T:Nat->AV} {a:Act}
theorem Ye(H:HOk B w g h){y:AV}{u:Value}{id st i n:Nat}(a:kX h y=some (id,st,i,n))(C:AR (ctx w g h) y u):
  ∃ty e xs A k,h[id]? =some (.row ty e xs st)/\i+n<=xs.length/\u= .slice A n k/\(0<n->∃o m f,g.cur id= .slice (some o) m f/\A=some (o.add (i*e))):=by
 unfold kX at a
 split at a
 ·rename_i b st'
  split at a
  ·rename_i ty e xs s j
   split at a
   ·rename_i p
    injection a with a
    injection a with h1 a
    injection a with h2 a
    injection a with h3 h4
    subst h1 h2 h3 h4
    subst p
    have q:=Jo C j
    obtain⟨I,L,cells,z,R⟩:=H.ok _ _ j
    obtain⟨A,f,d,O⟩:=w8 z
    have d:g.cur b= .slice A xs.length f:=d
    refine⟨ty,e,xs,A,f,j,by omega,q.trans d,λl=>?_⟩
    rcases z.2 with⟨c,v⟩|⟨P,cap,cur,c,_⟩
    ·rw[v] at l;simp at l
    ·have c:g.cur b=_:=c
     rw[c] at d
     injection d with d e3 e4
     exact⟨_,_,_,c,by rw[<-d,Nat.zero_mul];rfl⟩
   ·cases a
  ·cases a
 ·rename_i b st' K N J
  split at a
  ·rename_i ty e xs s j
   split at a
   ·rename_i p
    obtain⟨r,x,t⟩:=p
    injection a with a
    injection a with h1 a
    injection a with h2 a
    injection a with h3 h4
    subst h1 h2 h3 h4
    subst r x
    obtain⟨A,m,f,F,k,E,M,Q,G,D,_⟩:=C
    have q:=Jo E j
    refine⟨ty,e,xs,F,k,j,t,G,λl=>?_⟩
    obtain⟨o,c,v⟩:=D l
    subst c
    exact⟨o,m,f,q.symm,v⟩
   ·cases a
  ·cases a
 ·cases a
theorem qM{α:Type}{l:List α}{i:Nat}{a:α}(h:l[i]? =some a):l.set i a=l:=by
 apply qP
 intro j
 by_cases b:i=j
 ·subst b;rw[zo (zd.1 h).1,h]
 ·rw[zc b]
theorem yea:∀(p q r s:List AV),q.length=s.length->lay (p++q++r) p.length s=some (p++s++r)
 | [],q,r,s,c=>by
   have key:∀(s q:List AV),q.length=s.length->lay (q++r) 0 s=some (s++r):=by
    intro s
    induction s with
    | nil=>
      intro q b
      have:q=[]:=zC (by simpa using b)
      subst this
      simp only[List.nil_append]
      cases r<;>rfl
    | cons y s d=>
      intro q b
      cases q with
      | nil=>cases b
      | cons z q=>
        simp only[List.cons_append,lay]
        rw[d q (by simpa using b)]
        rfl
   simpa using key s q c
 | a::p,q,r,s,c=>by
   have:=yea p q r s c
   simp only[List.cons_append,List.length_cons,lay]
   rw[this]
   rfl
theorem QVa{e:Nat}{xs ys:List (List AV)}{i:Nat}(f:∀x∈xs,x.length=e)(g:∀y∈ys,y.length=e)(hi:i+ys.length<=xs.length):
  lay xs.flatten (i*e) ys.flatten=some (kI xs i ys).flatten/\(∀x∈kI xs i ys,x.length=e)/\(kI xs i ys).length=xs.length:=by
 have j:xs=xs.take i++(xs.drop i).take ys.length++xs.drop (i+ys.length):=by
  rw[zp, <-List.drop_drop,qL,qL]
 have a:∀x∈xs.take i,x.length=e:=λx h=>f x (List.mem_of_mem_take h)
 have b:∀x∈(xs.drop i).take ys.length,x.length=e:=λx h=>f x (List.mem_of_mem_drop (List.mem_of_mem_take h))
 have d:(xs.take i).flatten.length=i*e:=by rw[vI a];congr 1;simp;omega
 have c:((xs.drop i).take ys.length).flatten.length=ys.flatten.length:=by rw[vI b,vI g];congr 1;simp;omega
 refine⟨?_,λx h=>?_,by simp[kI];omega⟩
 ·have:=yea (xs.take i).flatten ((xs.drop i).take ys.length).flatten (xs.drop (i+ys.length)).flatten ys.flatten c
  rw[d] at this
  conv=>lhs;rw[j]
  simp only[List.flatten_append,kI]
  exact this
 ·unfold kI at h
  rcases zJ.1 h with h|h
  ·rcases zJ.1 h with h|h
   ·exact a x h
   ·exact g x h
  ·exact f x (List.mem_of_mem_drop h)
theorem xta(c:HOk B w g h)(hB:B<=w.heap.size){id st i n ty e:Nat}{xs ys:List (List AV)}(d:h[id]? =some (.row ty e xs st))(b:i+ys.length<=xs.length)(r:∀y∈ys,y.length=e){f:Addr}{m p:Nat}(j:g.cur id= .slice (some f) m p)
  {vs:List Value} (a:ARs (ctx w g h) ys.flatten vs) (k:∀v∈vs,v.oneCell'=true):
  ∃w' g',(storeCells (f.add (i*e)) vs).run P w= .ok () w'/\Good B w g h w' g' (h.set id (.row ty e (kI xs i ys) st)):=by
 obtain⟨s,o,cells,t,u⟩:=c.ok _ _ d
 obtain⟨q,l2,l⟩:=QVa o r b
 exact yda c hB d j a k q l2 l
theorem Zea(G:HOk B w g h)(hB:B<=w.heap.size){t ty e:TypeId}{y:AV}{u:Value}(hu:AR (ctx w g h) y u)(f:(zO P t).kind= .slice e){id st i n:Nat}(K:kX h y=some (id,st,i,n)){z:List Value}(s:(zO P e).zero=some z)
  (U:(zO P e).ok=true) (hl:z.length=(zO P e).sz) (b:vC h id i e (zO P e).sz (List.replicate n (z.map .v))=some h'):
  ∃w' g',(Builtin.clear_ #[t] ty #[u]).run P w= .ok (.tuple #[]) w'/\Good B w g h w' g' h':=by
 obtain⟨d,it,q,Y,eq⟩:=jt (jx f (by simp))
 rw[eq] at f
 cases d<;>try (cases f;done)
 injection f with f
 subst f
 rename_i e
 obtain⟨S,M,xs,A,k,p1,p2,C,I⟩:=Ye G K hu
 unfold vC at b
 rw[p1] at b
 simp only at b
 split at b
 ·rename_i N
  obtain⟨T,W,L⟩:=N
  injection b with b
  subst b
  subst T
  by_cases J:n=0
  ·subst J
   have:kI xs i (List.replicate 0 (z.map AV.v))=xs:=by simp[kI]
   rw[this,qM p1]
   refine⟨w,g,?_,Good.refl G hB⟩
   subst C
   cases A<;>simp[Builtin.clear_,run_underlying q]
  ·obtain⟨ad,m,cp,r1,X⟩:=I (by omega)
   obtain⟨d',Z,Q,H,o⟩:=jt U
   cases c:Z.zero with
   | none=>rw[o] at s;simp[c] at s
   | some D=>
     have E:D.cells.toList=z:=by rw[o] at s;simpa [c] using s
     have a:∀y∈List.replicate n (z.map AV.v),y.length=M:=λy O=>by rw[List.eq_of_mem_replicate O];simp[hl,W]
     have x:(List.replicate n (z.map AV.v)).flatten=(List.replicate n z).flatten.map AV.v:=by
      clear a L p2 I C K
      induction n with
      | zero=>simp
      | succ m ih=>simp[List.replicate_succ]
     have l:∀v∈(List.replicate n z).flatten,v.oneCell'=true:=λv R=>by
      obtain⟨r,F,p⟩:=List.mem_flatten.1 R
      rw[List.eq_of_mem_replicate F] at p
      have:=zR.1 L (z.map AV.v) (by rw[List.mem_replicate];exact⟨J,rfl⟩)
      simp only[zl] at this
      have:=zR.1 this.2 (.v v) (zw.2 ⟨v,p,rfl⟩)
      exact this
     obtain⟨w',g',V,s2⟩:=xta (P:=P) (n:=n) G hB p1 (i:=i) (ys:=List.replicate n (z.map AV.v)) (by simpa using p2) a r1 (vs:=(List.replicate n z).flatten) (by rw[x];exact Jn _) l
     refine⟨w',g',?_,s2⟩
     subst C
     subst X
     have j:(Builtin.zeroCells D.cells n).toList=(List.replicate n z).flatten:=by
      have:=XB D.cells n
      rw[E] at this
      exact this
     obtain⟨n,rfl⟩:∃m,n=m+1:=⟨n - 1,by omega⟩
     simp[Builtin.clear_,run_underlying q,Yc H c,j,V]
 ·cases b
theorem qra{sz n:Nat}{A:Option Addr}{m k:Nat}{vs:List Value}(b:vs.length=n*sz)(d:A=none->n=0)(c:∀a,A=some a->∀j u,vs[j]? =some u->w.cell? (a.add j)=some u):(Builtin.firstCells sz n (.slice A m k)).run P w= .ok vs.toArray w:=by
 cases A with
 | none=>
   have:vs=[]:=zC (by rw[b,d rfl,Nat.zero_mul])
   subst this
   simp[Builtin.firstCells]
 | some a=>
   have:=run_loadCells_list (P:=P) w a vs (c a rfl)
   rw[b] at this
   simpa [Builtin.firstCells] using this
theorem QWa(M:HOk B w g h)(hB:B<=w.heap.size){t ty e:TypeId}{y s:AV}{u v:Value}(hu:AR (ctx w g h) y u)(hv:AR (ctx w g h) s v)(p:(zO P t).kind= .slice e){id st i n:Nat}(hp:kX h y=some (id,st,i,n)){ys:List (List AV)}(z:z6 h s=some ys)
  (ho:(zO P e).ok=true) (h0:0<(zO P e).sz) (x:vC h id i e (zO P e).sz (ys.take n)=some h'):
  ∃w' g',(Builtin.copy_ #[t,t] ty #[u,v]).run P w= .ok (.int .i64 ((ys.take n).length:Nat)) w'/\Good B w g h w' g' h':=by
 obtain⟨d,it,I,χ,eq⟩:=jt (jx p (by simp))
 rw[eq] at p
 cases d<;>try (cases p;done)
 injection p with p
 subst p
 rename_i e
 obtain⟨T,Y,xs,A,k,p1,p2,Z,p4⟩:=Ye M hp hu
 obtain⟨A2,k2,r1,r2,r3,r4⟩:=wu M _ hv z
 unfold vC at x
 rw[p1] at x
 simp only at x
 split at x
 ·rename_i hc
  obtain⟨c1,c2,c3⟩:=hc
  injection x with x
  subst x
  subst c1
  obtain⟨d',O,κ,H,R⟩:=jt ho
  have Q:(zO P T).sz=O.size:=by rw[R]
  have c:(ys.take n).length=min ys.length n:=by rw[qa,Nat.min_comm]
  have l:∀r∈ys.take n,r.length=Y/\r.all AV.one=true:=λr z=>by
   have:=zR.1 c3 r z
   simp only[zl,beq_iff_eq] at this
   exact⟨by rw[c2];exact this.1,this.2⟩
  by_cases D:(ys.take n).length=0
  ·have V:ys.take n=[]:=zC D
   have:kI xs i (ys.take n)=xs:=by rw[V];simp[kI]
   rw[this,qM p1]
   refine⟨w,g,?_,Good.refl M hB⟩
   subst Z
   subst r1
   have L:Nat.min ys.length n=0:=by rw[<-D,c]
   have K:=qra (P:=P) (w:=w) (sz:=O.size) (n:=0) (A:=A2) (m:=ys.length) (k:=k2) (vs:=[]) (by simp) (λ_=>rfl) (λ_ _ _ _ h=>by simp at h)
   rw[D]
   cases A<;>simp[Builtin.copy_,run_underlying I,Builtin.lenOf,sizeOf,typeInfo,H,L,K,goInt,storeCells]
  ·have S:0<n:=by
    rcases Nat.eq_zero_or_pos n with h|h
    ·subst h;simp at D
    ·exact h
   obtain⟨ad,m,cp,q1,q2⟩:=p4 S
   subst q2
   have o:ys≠[]:=λh=>by subst h;simp at D
   cases F:eOf h s with
   | none=>exact absurd (r4 F) o
   | some N=>
     have f:=r3 N F
     obtain⟨r0,J⟩:∃r,r∈ys.take n:=List.exists_mem_of_ne_nil _ (λh=>D (by rw[h];rfl))
     have U:N=Y:=by rw[<-f.len r0 (List.mem_of_mem_take J)];exact(l r0 J).1
     subst U
     obtain⟨b,W⟩:∃b,A2=some b:=by
      cases C:ys with
      | nil=>exact absurd C o
      | cons q qs=>
        have hq:=f.len q (by rw[C];simp)
        obtain⟨b,u',z1,_⟩:=f.cell 0 0 q (nth q 0) (by rw[C];rfl) (ZS (by omega))
        exact⟨b,z1⟩
     subst W
     have G:RowsAt w (ctx w g h) N (ys.take n) (some b):=⟨λr z=>(l r z).1,λj k r a E p=>by
      rw[jr] at E
      split at E
      ·exact f.cell j k r a E p
      ·cases E⟩
     obtain⟨news,n1,n2,n3,n4⟩:=qqa G λr z=>(l r z).2
     obtain⟨w',g',s1,s2⟩:=xta (P:=P) (n:=n) M hB p1 (i:=i) (ys:=ys.take n) (by rw[c];omega) (λy hy=>(l y hy).1) q1 n4 n3
     refine⟨w',g',?_,s2⟩
     subst Z
     subst r1
     have L:Nat.min ys.length n=(ys.take n).length:=c.symm
     have X:N=O.size:=by rw[c2,Q]
     have K:=qra (P:=P) (w:=w) (sz:=O.size) (n:=(ys.take n).length) (A:=some b) (m:=ys.length) (k:=k2) (vs:=news) (by rw[n1,X]) (λh=>by cases h) (λad h j u E=>by injection h with h;subst h;exact n2 j u E)
     obtain⟨q,hq⟩:∃q,(ys.take n).length=q:=⟨_,rfl⟩
     rw[hq] at L K⊢
     simp[Builtin.copy_,run_underlying I,Builtin.lenOf,sizeOf,typeInfo,H,L,K,s1,goInt]
 ·cases x
theorem Zfa(I:HOk B w g h)(hB:B<=w.heap.size)(C:wF (ctx w g h) T a){t e:TypeId}{X:Operand}{lo hi:Option Operand}{xs:List (List AV)}{l m:Int}(o:(zO P t).kind= .slice e)(K:z6 h (ev T X)=some xs)(i:ZU T 0 lo=some l)(f:ZU T xs.length hi=some m)
  (Q:(zO P e).ok=true) (h0:0<=l) (Z:l<=m) (G:m<=xs.length) (E:l=m∨(0<(zO P e).sz/\eOf h (ev T X)=some (zO P e).sz)):DidV P (Instr.sliceAt t (a.eval X) (lo.map a.eval) (hi.map a.eval) none) B w g h (.vw (ev T X) (zO P e).sz l.toNat (m.toNat - l.toNat)) h:=by
 obtain⟨d,it,F,S,eq⟩:=jt (jx o (by simp))
 rw[eq] at o
 cases d<;>try (cases o;done)
 injection o with o
 subst o
 rename_i e
 obtain⟨Y,U,M,D,s⟩:=jt Q
 have H:=jL C X
 obtain⟨A,k,J,r2,O,r4⟩:=wu I _ H K
 have b:(match lo.map a.eval with|some v=>Instr.sliceBound v m.toNat .sliceB|none=>pure 0:Sem Nat).run P w= .ok l.toNat w:=by
  cases lo with
  | none=>injection i with i;subst i;rfl
  | some x=>
    simp only[ZU] at i
    split at i
    ·rename_i kk n u
     injection i with i
     subst i
     have:=Zc C u
     simp only[Option.map_some,this,Instr.sliceBound,asIntOf,Sem.run_bind,Sem.run_pure,Result.andThen_ok,if_pos (show 0<=n/\n<=(m.toNat:Int) by omega)]
    ·cases i
 have c:(match hi.map a.eval with|some v=>Instr.sliceBound v k .sliceAcap|none=>pure xs.length:Sem Nat).run P w= .ok m.toNat w:=by
  cases hi with
  | none=>injection f with f;subst f;simp
  | some x=>
    simp only[ZU] at f
    split at f
    ·rename_i kk n u
     injection f with f
     subst f
     have:=Zc C u
     simp only[Option.map_some,this,Instr.sliceBound,asIntOf,Sem.run_bind,Sem.run_pure,Result.andThen_ok,if_pos (show 0<=n/\n<=(k:Int) by omega)]
    ·cases f
 refine jG I hB (v:= .slice (if k=l.toNat then A else A.map (·.add (l.toNat*U.size))) (m.toNat - l.toNat) (k - l.toNat)) ?_ ?_
 ·have V:(Instr.sliceBounds true xs.length k (lo.map a.eval) (hi.map a.eval) none).run P w= .ok (l.toNat,m.toNat,k) w:=by
   unfold Instr.sliceBounds
   cases lo with
   | none=>cases hi with
     | none=>
       injection b with b
       injection c with c
       simp[b,c]
     | some x=>
       injection b with b
       simp only[Option.map_some] at c
       simp[b,c]
   | some y=>cases hi with
     | none=>
       injection c with c
       simp only[Option.map_some] at b
       simp[b,c]
     | some x=>
       simp only[Option.map_some] at b c
       simp[b,c]
  simp only[Instr.sliceAt,Sem.run_bind,run_underlying F,Result.andThen_ok,Instr.slice,J]
  simp only[Sem.run_bind,V,Result.andThen_ok,sizeOf,typeInfo,run_program]
  simp[D]
 ·refine⟨A,xs.length,k,_,_,by rw[<-J];exact H,by omega,by omega,rfl,λhn=>?_,λh0=>?_⟩
  rotate_left
  ·rw[h0]
   refine⟨?_,rfl⟩
   split
   ·exact .inl rfl
   ·exact .inr (by simp)
  have r:k≠l.toNat:=by omega
  rw[if_neg r]
  cases A with
  | some R=>exact⟨R,rfl,by rw[s];rfl⟩
  | none=>
    exfalso
    rcases E with he|⟨L,z⟩
    ·omega
    ·have p:=O _ z
     cases j:xs with
     | nil=>rw[j] at G;simp at G;omega
     | cons q qs=>
       have hq:=p.len q (by rw[j];simp)
       obtain⟨W,u',N,_⟩:=p.cell 0 0 q (nth q 0) (by rw[j];rfl) (ZS (by omega))
       cases N
end
section
variable {B:Nat} {w:World} {g:Gh} {h h':List Ob} {P:Program} {x:AV} {T:Nat->AV} {a:Act} {kk:IntKind} {n:Int} {v:AV}
theorem xk:∀ {es:List (AV × AV)},vv kk es=true↔∀p∈es,p.1= .v (.int kk (kY p))
 | []=>by simp[vv]
 | p::r=>by
   have c:=xk (es:=r)
   constructor
   ·intro h q a
    unfold vv at h
    split at h
    ·rename_i heq;cases heq
    ·rename_i k m u d heq
     injection heq with b h2
     subst b h2
     simp only[zl,beq_iff_eq] at h
     rcases zE.1 a with rfl|a
     ·simp[kY,h.1]
     ·exact c.1 h.2 q a
    ·cases h
   ·intro h
    obtain⟨p1,p2⟩:=p
    have h0:p1=_:=h (p1,p2) (by simp)
    have b:=c.2 λq a=>h q (by simp[a])
    rw[h0]
    simp[vv,b]
theorem Wb{a b:List (AV × AV)}(d:a.Perm b)(h:vv kk b=true):vv kk a=true:=by
 rw[xk] at h⊢
 exact λp c=>h p (d.mem_iff.1 c)
theorem XO:∀ {es:List (AV × AV)},kL n es=true↔∃p∈es,kY p=n
 | []=>by simp[kL]
 | p::r=>by simp[kL,XO (es:=r)]
theorem yb:∀(es:List (AV × AV)),xv kk n v es=es.map λp=>if kY p=n then(.v (.int kk n),v) else p
 | []=>rfl
 | p::r=>by simp[xv,yb r]
theorem ZV:∀(es:List (AV × AV)),(j5 kk n v es).Perm ((.v (.int kk n),v)::es)
 | []=> .refl _
 | p::r=>by
   unfold j5
   split
   ·exact .refl _
   ·exact((ZV r).cons p).trans (.swap _ _ _)
theorem Wc{n n':Int}{v v':AV}(d:n≠n'):∀(es:List (AV × AV)),j5 kk n v (j5 kk n' v' es)=j5 kk n' v' (j5 kk n v es)
 | []=>by
   simp only[j5,kY]
   by_cases h:n<n'
   ·simp[h,show ¬ n'<n by omega]
   ·simp[h,show n'<n by omega]
 | p::r=>by
   have e:=Wc (v:=v) (v':=v') d r
   have k1:kY (.v (.int kk n),v)=n:=rfl
   have k2:kY (.v (.int kk n'),v')=n':=rfl
   by_cases b:n<kY p
   ·by_cases a:n'<kY p
    ·by_cases c:n<n'
     ·simp[j5,b,a,c,k1,k2,show ¬ n'<n by omega]
     ·simp[j5,b,a,c,k1,k2,show n'<n by omega]
    ·have c:n<n':=by omega
     simp[j5,b,a,k1,show ¬ n'<n by omega]
   ·by_cases a:n'<kY p
    ·have c:n'<n:=by omega
     simp[j5,b,a,k2,show ¬ n<n' by omega]
    ·simp[j5,b,a,e]
theorem vJ{c:Ctx}:∀ {l:List (AV × AV)} {es:List MapEntry},MapRel c l es->l.length=es.length
 | [],es,h=>by have h:es=[]:=h;simp[h]
 | p::r,es,⟨e,q,b,_,_,a⟩=>by subst b;simp[vJ a]
theorem kZ{c:Ctx}:∀ {l:List (AV × AV)} {es:List MapEntry},MapRel c l es->∀(i:Nat) (p:AV × AV),l[i]? =some p->∃e,es[i]? =some e/\AR c p.1 e.key/\AR c p.2 e.val
 | q::r,es,⟨e,s,b,d,g,f⟩,0,p,a=>by injection a with a;subst a b;exact⟨e,rfl,d,g⟩
 | q::r,es,⟨e,s,b,d,g,f⟩,i+1,p,a=>by
   subst b
   exact kZ f i p (by simpa using a)
theorem Vo{c:Ctx}:∀ {l:List (AV × AV)} {es:List MapEntry},l.length=es.length->(∀(i:Nat) (p:AV × AV) (e:MapEntry),l[i]? =some p->es[i]? =some e->AR c p.1 e.key/\AR c p.2 e.val)->MapRel c l es
 | [],[],_,_=>rfl
 | [],_::_,h,_=>by cases h
 | _::_,[],h,_=>by cases h
 | p::l,e::es,d,h=>⟨e,es,rfl,(h 0 p e rfl rfl).1,(h 0 p e rfl rfl).2,Vo (by simpa using d) λi p e a b=>h (i+1) p e (by simpa using a) (by simpa using b)⟩
theorem XP{kk':IntKind}:∀(es:List MapEntry) (i:Nat),(∀e∈es,∃m,e.key= .int kk m)->(∀e∈es,e.key≠ .int kk n)/\Instr.findNow (.int kk') (.int kk n) es i=some none∨∃j e,es[j]? =some e/\e.key= .int kk n/\Instr.findNow (.int kk') (.int kk n) es i=some (some (i+j,e.val))
 | [],i,_=> .inl ⟨by simp,rfl⟩
 | e::es,i,l=>by
   obtain⟨m,c⟩:=l e (by simp)
   by_cases b:n=m
   ·subst b
    exact .inr ⟨0,e,rfl,c,by simp[Instr.findNow,c,Instr.sameNow]⟩
   ·have k:Instr.sameNow (.int kk') (.int kk n) e.key=some false:=by simp[c,Instr.sameNow,b]
    rcases XP (kk':=kk') es (i+1) (λe o=>l e (by simp[o])) with⟨f,d⟩|⟨j,g,f,d,p⟩
    ·refine .inl ⟨λg a=>?_,by simp[Instr.findNow,k,d]⟩
     rcases zE.1 a with rfl|a
     ·rw[c];intro h;injection h with _ h;exact b h.symm
     ·exact f g a
    ·exact .inr ⟨j+1,g,by simpa using f,d,by simp[Instr.findNow,k,p];omega⟩
theorem qsa{es:List MapEntry}(g:(es.map (·.key)).Nodup){i j:Nat}{e b:MapEntry}(hi:es[i]? =some e)(c:es[j]? =some b)(h:e.key=b.key):i=j:=by
 have a:(es.map (·.key))[i]? =some e.key:=by simp[hi]
 have d:(es.map (·.key))[j]? =some e.key:=by simp[c,h]
 have f:=(zd.1 a).1
 exact(List.getElem?_inj f g).1 (a.trans d.symm)
theorem xua{c:Ctx}{l:List (AV × AV)}{es:List MapEntry}(b:MapRel c l es)(h:vv kk l=true):∀e∈es,∃m,e.key= .int kk m:=λe g=>by
 obtain⟨i,hi⟩:=List.mem_iff_getElem?.1 g
 have f:i<l.length:=by rw[vJ b];exact(zd.1 hi).1
 obtain⟨j,a,d,_⟩:=kZ b i _ (zi f)
 rw[hi] at a
 injection a with a
 subst a
 have:=xk.1 h l[i] (zD f)
 rw[this] at d
 exact⟨_,d⟩
theorem Yf{z:AV}:∀ {es:List (AV × AV)},(∀p∈es,kY p≠n)->Jd n z es=(z,false)
 | [],_=>rfl
 | p::r,h=>by
   have c:=Yf (z:=z) (es:=r) λq a=>h q (by simp[a])
   have b:=h p (by simp)
   simp[Jd,c,b]
theorem Yg{z:AV}:∀ {es:List (AV × AV)},(∃p∈es,kY p=n)->∃p∈es,kY p=n/\Jd n z es=(p.2,true)
 | [],h=>by simp at h
 | p::r,h=>by
   by_cases a:kY p=n
   ·exact⟨p,by simp,a,by simp[Jd,a]⟩
   ·obtain⟨q,b,c⟩:=h
    rcases zE.1 b with rfl|b
    ·exact absurd c a
    ·obtain⟨d,g,f,e⟩:=Yg (z:=z) (es:=r) ⟨q,b,c⟩
     exact⟨d,by simp[g],f,by simp[Jd,a,e]⟩
theorem Yh{c:Ctx}{L I mt:TypeId}{es:Array MapEntry}{k:Nat}{l l':List (AV × AV)}{b:Nat}{kk':IntKind}{z:Value}{D:AV}(X:P.underlying mt=some (.map L I))(E:P.underlying L=some (.int kk'))(R:w.heap[b]? =some (.map es k))(H:l'.Perm l)(B:MapRel c l' es.toList)(Y:(es.toList.map (·.key)).Nodup)
  (m:vv kk l=true) (N:(zeroValue I).run P w= .ok z w) (C:AR c D z) (ok:Bool):
  ∃u,(Instr.lookup mt (.map (some b)) (.int kk n) ok).run P w= .ok u w/\AR c (if ok then .tup [(Jd n D l).1,.v (.bool (Jd n D l).2)] else(Jd n D l).1) u:=by
 have F:=Wb H m
 have O:∀ {β:Type} (f:Obj->Sem β),(Sem.getObj b f).run P w=(f (.map es k)).run P w:=λf=>by simp[Sem.run,R]
 have o:∀(r:Option (Nat × Value)) (q:Value) (t:Bool),Instr.findNow (.int kk') (.int kk n) es.toList 0=some r->(match r with|some (_,v)=>(pure (v,true):Sem (Value × Bool))|none=>do pure (<-zeroValue I,false)).run P w= .ok (q,t) w->
   (Instr.lookup mt (.map (some b)) (.int kk n) ok).run P w= .ok (if ok then .tuple #[q,.bool t] else q) w:=λr q t V s=>by
  have M:∀d,(Instr.checkKey es.isEmpty (d+1) L (.int kk n)).run P w= .ok () w:=λd=>by simp[Instr.checkKey,run_underlying E]
  have W:(getObj b).run P w= .ok (.map es k) w:=by simp[getObj,Sem.run,R]
  simp only[Instr.lookup,Sem.run_bind,run_underlying X,Result.andThen_ok,W,Sem.run_pure,M,Instr.findKey,run_underlying E,V]
  cases r with
  | some p=>obtain⟨i,v⟩:=p;simp only[Sem.run_pure] at s ⊢;injection s with s _;injection s with h x;subst h x;cases ok<;>simp
  | none=>simp only[Sem.run_bind,N,Result.andThen_ok,Sem.run_pure] at s ⊢;injection s with s _;injection s with h x;subst h x;cases ok<;>simp
 rcases XP (kk':=kk') es.toList 0 (xua B F) (n:=n) with⟨h,x⟩|⟨j,e,h,x,U⟩
 ·have K:∀p∈l,kY p≠n:=λp A e=>by
   obtain⟨i,hi⟩:=List.mem_iff_getElem?.1 (H.mem_iff.2 A)
   obtain⟨G,g,a,_⟩:=kZ B i p hi
   have:=xk.1 m p A
   rw[this,e] at a
   exact h G (qi g) a
  refine⟨_,o none z false x (by simp[N]),?_⟩
  rw[Yf K]
  cases ok
  ·exact C
  ·exact⟨_,rfl,_,_,rfl,C,_,_,rfl,rfl,rfl⟩
 ·have y:j<l'.length:=by rw[vJ B];exact(zd.1 h).1
  have hex:∃p∈l,kY p=n:=by
   obtain⟨G,g,a,_⟩:=kZ B j _ (zi y)
   rw[h] at g
   injection g with g
   subst g
   have Q:=H.mem_iff.1 (zD y)
   have:=xk.1 m _ Q
   rw[this] at a
   have a:e.key= .int kk _:=a
   rw[x] at a
   injection a with _ a
   exact⟨_,Q,a.symm⟩
  obtain⟨p,p1,p2,T⟩:=Yg (z:=D) hex
  obtain⟨i,hi⟩:=List.mem_iff_getElem?.1 (H.mem_iff.2 p1)
  obtain⟨G,g,a,S⟩:=kZ B i p hi
  have:=xk.1 m p p1
  rw[this,p2] at a
  have a:G.key= .int kk n:=a
  have J:=qsa Y g h (a.trans x.symm)
  subst J
  rw[h] at g
  injection g with g
  subst g
  refine⟨_,o (some (0+i,e.val)) e.val true U (by simp),?_⟩
  rw[T]
  cases ok
  ·exact S
  ·exact⟨_,rfl,_,_,rfl,S,_,_,rfl,rfl,rfl⟩
theorem vwa(U:HOk B w g h)(hB:B<=w.heap.size){X et mt:TypeId}{id:Nat}{l l2:List (AV × AV)}{kk':IntKind}{u:Value}(hu:P.underlying mt=some (.map X et))(G:P.underlying X=some (.int kk'))(S:h[id]? =some (.mapo l))(hv:AR (ctx w g h) v u)(x:Jh kk n v l=some l2):
  ∃w',(Instr.mapUpdate mt (.map (some (g.β id))) (.int kk n) u).run P w= .ok () w'/\Good B w g h w' g (h.set id (.mapo l2)):=by
 obtain⟨h1,es,k,l',Q,s,y,Z⟩:=U.ok id _ S
 have Q:w.heap[g.β id]? =some (.map es k):=Q
 unfold Jh at x
 split at x
 case isFalse=>cases x
 rename_i E
 injection x with x
 have D:=Wb s E
 have M:∀d,(Instr.checkKey false (d+1) X (.int kk n)).run P w= .ok () w:=λd=>by simp[Instr.checkKey,run_underlying G]
 have hg:(getObj (g.β id)).run P w= .ok (.map es k) w:=by simp[getObj,Sem.run,Q]
 have C:∀o,(setObj (g.β id) o).run P w= .ok () { w with heap:=w.heap.setIfInBounds (g.β id) o }:=λo=>by simp[setObj,Sem.run,Q]
 rcases XP (kk':=kk') es.toList 0 (xua y D) (n:=n) with⟨A,F⟩|⟨j,e,A,F,f3⟩
 ·have V:kL n l=false:=by
   rw[jv]
   intro hc
   obtain⟨p,J,e⟩:=XO.1 hc
   obtain⟨i,hi⟩:=List.mem_iff_getElem?.1 (s.mem_iff.2 J)
   obtain⟨N,r,f,_⟩:=kZ y i p hi
   have:=xk.1 E p J
   rw[this,e] at f
   exact A N (qi r) f
  rw[V] at x
  simp only[Bool.false_eq_true,if_false] at x
  subst x
  refine⟨_,?_,xha U hB S (es':=es.push { key:= .int kk n,val:=u,born:=k }) (k':=k+1) (l2:=l'++[(.v (.int kk n),v)]) ?_ ?_ ?_⟩
  ·simp only[Instr.mapUpdate,Sem.run_bind,run_underlying hu,Result.andThen_ok,hg,M,Instr.findKey,run_underlying G,F,Sem.run_pure,C]
  ·refine(List.perm_append_comm).trans (List.Perm.trans ?_ (ZV l).symm)
   exact s.cons _
  ·rw[Array.toList_push]
   refine Vo (by simp[vJ y]) λi p e s m=>?_
   by_cases hi:i<l'.length
   ·rw[zH hi] at s
    rw[zH (by rw[<-vJ y];exact hi)] at m
    obtain⟨N,r,f,Y⟩:=kZ y i p s
    rw[m] at r;injection r with r;subst r
    exact⟨f,Y⟩
   ·have hl:=vJ y
    rw[zQ (by omega)] at s m
    rw[<-hl] at m
    have h0:i - l'.length=0:=by
     have:=(zd.1 s).1
     simp at this;omega
    rw[h0] at s m
    injection s with s;injection m with m
    subst s m
    exact⟨rfl,hv⟩
  ·rw[Array.toList_push,zy,List.nodup_append]
   refine⟨Z,by simp,λa ha b hb=>?_⟩
   simp at hb
   obtain⟨e,m,rfl⟩:=zw.1 ha
   rw[hb]
   exact A e m
 ·have I:j<l'.length:=by rw[vJ y];exact(zd.1 A).1
  have H:kL n l=true:=by
   rw[XO]
   obtain⟨N,r,f,_⟩:=kZ y j _ (zi I)
   rw[A] at r
   injection r with r
   subst r
   have hm:=s.mem_iff.1 (zD I)
   have:=xk.1 E _ hm
   rw[this] at f
   have f:e.key= .int kk _:=f
   rw[F] at f
   injection f with _ f
   exact⟨_,hm,f.symm⟩
  rw[H] at x
  simp only[if_true] at x
  subst x
  have L:es[j]? =some e:=by simpa using A
  refine⟨_,?_,xha U hB S (es':=es.modify j λe=>{ e with key:= .int kk n,val:=u }) (k':=k) (l2:=xv kk n v l') ?_ ?_ ?_⟩
  ·have T:(Instr.keyThatStays e.key (.int kk n)).run P w= .ok (.int kk n) w:=by simp[Instr.keyThatStays,F,Instr.sameBits]
   rw[Nat.zero_add] at f3
   simp only[Instr.mapUpdate,Sem.run_bind,run_underlying hu,Result.andThen_ok,hg,M,Instr.findKey,run_underlying G,f3,Sem.run_pure,L,Option.map_some,Option.getD_some,T,C]
  ·rw[yb,yb]
   exact s.map _
  ·refine Vo (by simp[yb,vJ y]) λi p N c m=>?_
   rw[yb,zx] at c
   cases z:l'[i]? with
   | none=>rw[z] at c;cases c
   | some q=>
     rw[z] at c
     injection c with c
     obtain⟨e2,r,f,Y⟩:=kZ y i q z
     have K:=xk.1 D q (qi z)
     rw[K] at f
     have f:e2.key= .int kk (kY q):=f
     rw[qr,Array.getElem?_modify] at m
     have R:es[i]? =some e2:=by simpa using r
     rw[R] at m
     by_cases O:kY q=n
     ·rw[O] at f
      have t:=qsa Z r A (f.trans F.symm)
      subst t
      have c:(if kY q=n then((.v (.int kk n),v):AV × AV) else q)=p:=c
      rw[if_pos O] at c
      subst c
      simp only[if_true,Option.map_some] at m
      injection m with m
      subst m
      exact⟨rfl,hv⟩
     ·have t:j≠i:=λW=>by
       subst W
       rw[A] at r
       injection r with r
       subst r
       rw[F] at f
       injection f with _ f
       exact O f.symm
      have c:(if kY q=n then((.v (.int kk n),v):AV × AV) else q)=p:=c
      rw[if_neg O] at c
      subst c
      rw[if_neg t] at m
      injection m with m
      subst m
      exact⟨by rw[K];exact f,Y⟩
  ·have:(es.modify j λe=>{ e with key:= .int kk n,val:=u }).toList.map (·.key)=es.toList.map (·.key):=by
    apply qP
    intro i
    rw[zx,zx,qr,Array.getElem?_modify,qr]
    by_cases t:j=i
    ·subst t;rw[L];simp[F]
    ·rw[if_neg t]
   rw[this]
   exact Z
theorem QXa{c:Ctx}{t:TypeId}{z:AV}(b:yba (zO P t)=some z):∃u,(zeroValue t).run P w= .ok u w/\AR c z u:=by
 unfold yba at b
 split at b
 ·rename_i g
  cases a:(zO P t).zero with
  | none=>rw[a] at b;cases b
  | some j=>
    rw[a] at b
    simp only[Option.bind_some] at b
    obtain⟨d,i,k,hi,e⟩:=jt (jra a)
    rw[e] at a g
    cases f:i.zero with
    | none=>rw[f] at a;cases a
    | some v=>
      rw[f] at a g
      injection a with a
      have h:v.cells= #[v]:=by
       have g:v.oneCell'=true:=g
       cases v<;>first|rfl|cases g
      have a:v.cells.toList=j:=a
      rw[h] at a
      subst a
      injection b with b
      subst b
      exact⟨v,Yc hi f,rfl⟩
 ·cases b
theorem xva{c:Ctx}{t:TypeId}(m:(zO P t).ok=true){cs:List AV}{vs:Array Value}(l:ARs c cs vs.toList){k:Nat}{x:AV}(a:part cs k (zO P t).agg (zO P t).sz=some x):∃u,(_root_.Go.part t vs k).run P w= .ok u w/\AR c x u:=by
 obtain⟨d,i,p,hi,e⟩:=jt m
 rw[e] at a
 have f:(isAgg t).run P w= .ok (w9a d) w:=by
  simp only[isAgg,Sem.run_bind,run_underlying p,Result.andThen_ok]
  cases d<;>rfl
 simp only[part] at a
 split at a
 ·rename_i j
  cases b:cut cs k i.size with
  | none=>rw[b] at a;cases a
  | some rs=>
    rw[b] at a
    injection a with a
    subst a
    obtain⟨q,r,v⟩:=jma l k _ b
    refine⟨.agg (vs.extract k (k+i.size)),?_,_,rfl,?_⟩
    ·have h:k+i.size<=vs.size:=by simpa using r
     simp[_root_.Go.part,f,j,sizeOf,typeInfo,hi,h]
    ·simpa [Array.toList_extract,List.extract_eq_take_drop] using q
 ·rename_i j
  split at a
  ·rename_i s
   injection a with a
   subst a
   obtain⟨u,o,n⟩:=wg l k s
   refine⟨u,?_,n⟩
   have g:vs[k]? =some u:=by simpa using o
   simp[_root_.Go.part,f,j,g]
  ·cases a
end
section
variable {B:Nat} {w:World} {g:Gh} {h h':List Ob} {P:Program} {x:AV} {T:Nat->AV} {a:Act}
theorem qta:∀ {rows:List (List AV)} {l:List UInt8},xja rows=some l->∃ns:List Int,rows=ns.map (λn=>[AV.v (.int .u8 n)])/\l=ns.map λn=>UInt8.ofNat n.toNat
 | [],l,h=>by
   injection h with h
   exact⟨[],rfl,h.symm⟩
 | r::rows,l,h=>by
   unfold xja at h
   split at h
   ·rename_i e;cases e
   ·rename_i n d e
    injection e with e1 e2
    subst e2
    cases a:xja rows with
    | none=>rw[a] at h;cases h
    | some l'=>
      rw[a] at h
      injection h with h
      obtain⟨ns,c,b⟩:=qta a
      exact⟨n::ns,by rw[e1,c];rfl,by rw[<-h,b];rfl⟩
   ·cases h
theorem Zga(l:List Int):∀s:ByteArray,l.foldl (λr n=>r.push (UInt8.ofNat n.toNat)) s=⟨s.data++(l.map λn=>UInt8.ofNat n.toNat).toArray⟩:=by
 induction l with
 | nil=>intro s;simp
 | cons x l a=>
   intro s
   simp only[List.map_cons,List.foldl_cons]
   rw[a]
   simp[ByteArray.push]
theorem QYa(V:HOk B w g h){s d:TypeId}{rows:List (List AV)}{v:Value}{z:AV}(S:AR (ctx w g h) (.sl 1 rows) v)(Q:(zO P s).ok=true)(J:(zO P d).kind= .str)(b:KAa P s rows=some z):
  ∃u,(convert s d v).run P w= .ok u w/\AR (ctx w g h) z u:=by
 obtain⟨A,k,N,h2,p,_⟩:=wu V (.sl 1 rows) S rfl
 have p:=p 1 rfl
 unfold KAa at b
 split at b
 ·rename_i e o
  split at b
  ·rename_i a
   cases G:xja rows with
   | none=>rw[G] at b;cases b
   | some l=>
     rw[G] at b
     injection b with b
     subst b
     obtain⟨Z,i1,F,W,q⟩:=jt Q
     obtain⟨Y,i2,t,O,D⟩:=jt (jx J (by simp))
     obtain⟨T,i3,r,X,y⟩:=jt (jx a (by simp))
     rw[q] at o
     rw[D] at J
     rw[y] at a
     cases Z<;>try (cases o;done)
     cases Y<;>try (cases J;done)
     cases T<;>try (cases a;done)
     injection o with o
     injection a with a
     subst o;subst a
     obtain⟨ns,C,E⟩:=qta G
     refine⟨.string ⟨l.toArray⟩,?_,rfl⟩
     have R:∀f,A=some f->∀j u,(ns.map (Value.int .u8))[j]? =some u->w.cell? (f.add j)=some u:=λf U j u i=>by
      rw[zx] at i
      cases x:ns[j]? with
      | none=>rw[x] at i;cases i
      | some n=>
        rw[x] at i
        injection i with i
        subst i
        obtain⟨I,M,m,L,H⟩:=p.cell j 0 [.v (.int .u8 n)] (.v (.int .u8 n)) (by rw[C,zx,x];rfl) rfl
        rw[U] at m
        injection m with m
        subst m
        rw[Nat.mul_one,Nat.add_zero] at L
        have H:M= .int .u8 n:=H
        rw[L,H]
     have K:rows.length=ns.length:=by rw[C,zb]
     rw[N,run_convert_bytes_string w s d _ A rows.length k F r t]
     cases A with
     | none=>
       have h0:ns=[]:=by
        cases ns with
        | nil=>rfl
        | cons n ns=>
          obtain⟨I,M,m,_⟩:=p.cell 0 0 [.v (.int .u8 n)] (.v (.int .u8 n)) (by rw[C];rfl) rfl
          cases m
       rw[h0] at K E
       rw[K,E]
       rfl
     | some f=>
       have c:=run_loadCells_list (P:=P) w f (ns.map (Value.int .u8)) (R f rfl)
       rw[zb] at c
       rw[K,run_bytesToString w f ns.length k ns c,Zga,E]
       simp
  ·cases b
 ·cases b
theorem yfa{c:Ctx}:∀ {aZ:List AV} {y:AV} {vs:List Value} {v:Value},ARs c aZ vs->AR c y v->∀ {r:AV},xka y aZ=some r->∃u,(vs.foldlM Builtin.max2 v).run P w= .ok u w/\AR c r u
 | [],y,vs,v,e,a,r,h=>by
   have e:vs=[]:=e
   subst e
   have h:some y=some r:=by rw[<-h];unfold xka;rfl
   injection h with h;subst h
   exact⟨v,rfl,a⟩
 | z::aZ,y,vs,v,⟨u,q,d,b,i⟩,a,r,h=>by
   subst d
   unfold xka at h
   split at h
   ·rename_i heq;cases heq
   ·rename_i k p k' n j heq
    injection heq with h4 h5
    subst h4 h5
    have a:v= .int k p:=a
    have b:u= .int k' n:=b
    subst a b
    obtain⟨u,g,f⟩:=yfa (y:= .v (.int k (if n>p then n else p))) i rfl h
    exact⟨u,by simpa [List.foldlM_cons,Builtin.max2] using g,f⟩
   ·cases h
theorem yga{c:Ctx}:∀ {aZ:List AV} {y:AV} {vs:List Value} {v:Value},ARs c aZ vs->AR c y v->∀ {r:AV},xla y aZ=some r->∃u,(vs.foldlM Builtin.min2 v).run P w= .ok u w/\AR c r u
 | [],y,vs,v,e,a,r,h=>by
   have e:vs=[]:=e
   subst e
   have h:some y=some r:=by rw[<-h];unfold xla;rfl
   injection h with h;subst h
   exact⟨v,rfl,a⟩
 | z::aZ,y,vs,v,⟨u,q,d,b,i⟩,a,r,h=>by
   subst d
   unfold xla at h
   split at h
   ·rename_i heq;cases heq
   ·rename_i k p k' n j heq
    injection heq with h4 h5
    subst h4 h5
    have a:v= .int k p:=a
    have b:u= .int k' n:=b
    subst a b
    obtain⟨u,g,f⟩:=yga (y:= .v (.int k (if n<p then n else p))) i rfl h
    exact⟨u,by simpa [List.foldlM_cons,Builtin.min2] using g,f⟩
   ·cases h
theorem QZa(G:HOk B w g h)(hB:B<=w.heap.size)(o:wF (ctx w g h) T a){c:Call}{ty:TypeId}(f:Qc P T h c=some (x,h')):
  Did P (do let d<-resolve a.eval c ty;invoke d.target d.args) B w g h x h':=by
 obtain⟨callee,args,argTypes⟩:=c
 obtain⟨args⟩:=args
 obtain⟨argTypes⟩:=argTypes
 unfold Qc at f
 split at f
 ·rename_i X t l b j
  simp only at l b j
  subst l b j
  split at f
  ·rename_i e p
   cases m:z6 h (ev T X) with
   | none=>rw[m] at f;cases f
   | some xs=>
     rw[m] at f
     injection f with f
     injection f with hx1 hx2
     subst hx1 hx2
     obtain⟨d,i,W,Q,eq⟩:=jt (jx p (by simp))
     rw[eq] at p
     cases d<;>try (cases p;done)
     obtain⟨A,k,s,C,_,_⟩:=wu G _ (jL o X) m
     refine⟨.value (.int .i64 xs.length),_,w,g,?_,.inl rfl,Good.refl G hB,rfl⟩
     simp[resolve,invoke,builtin,Builtin.len_,s,run_underlying W,goInt]
  ·cases f
 ·rename_i S X t U l b j
  simp only at l b j
  subst l b j
  split at f
  ·rename_i e p
   split at f
   ·rename_i M
    subst M
    obtain⟨v,w',g',N,K,O⟩:=vva (ty:=ty) G hB (jL o S) (jL o X) p f
    refine⟨.value v,v,w',g',?_,.inl rfl,K,O⟩
    simp[resolve,invoke,builtin,N]
   ·cases f
  ·cases f
 ·rename_i X t l b j
  simp only at l b j
  subst l b j
  split at f
  ·rename_i e p
   cases F:kX h (ev T X) with
   | none=>rw[F] at f;cases f
   | some q=>
     obtain⟨id,st,i,n⟩:=q
     rw[F] at f
     simp only[Option.bind_some] at f
     cases I:(zO P e).zero with
     | none=>rw[I] at f;cases f
     | some z=>
       rw[I] at f
       simp only[Option.bind_some] at f
       split at f
       ·rename_i H
        cases m:vC h id i e (zO P e).sz (List.replicate n (z.map .v)) with
        | none=>rw[m] at f;cases f
        | some K=>
          rw[m] at f
          injection f with f
          injection f with hx1 hx2
          subst hx1 hx2
          obtain⟨w',g',s,C⟩:=Zea (P:=P) (ty:=ty) G hB (jL o X) p F I H.1 H.2 m
          refine⟨.value (.tuple #[]),.tuple #[],w',g',?_,.inl rfl,C,⟨_,rfl,rfl⟩⟩
          simp[resolve,invoke,builtin,s]
       ·cases f
  ·cases f
 ·rename_i D X t U l b j
  simp only at l b j
  subst l b j
  split at f
  ·rename_i e p
   split at f
   ·rename_i H
    obtain⟨M,R,V⟩:=H
    subst M
    cases F:kX h (ev T D) with
    | none=>rw[F] at f;cases f
    | some q=>
      obtain⟨id,st,i,n⟩:=q
      rw[F] at f
      simp only[Option.bind_some] at f
      cases J:z6 h (ev T X) with
      | none=>rw[J] at f;cases f
      | some ys=>
        rw[J] at f
        simp only[Option.bind_some] at f
        cases m:vC h id i e (zO P e).sz (ys.take n) with
        | none=>rw[m] at f;cases f
        | some K=>
          rw[m] at f
          injection f with f
          injection f with hx1 hx2
          subst hx1 hx2
          obtain⟨w',g',s,C⟩:=QWa (P:=P) (ty:=ty) G hB (jL o D) (jL o X) p F J R V m
          refine⟨.value (.int .i64 ((ys.take n).length:Nat)),_,w',g',?_,.inl rfl,C,rfl⟩
          simp only[resolve,invoke,builtin]
          simp[s]
   ·cases f
  ·cases f
 ·rename_i L X r l b
  simp only at l b
  subst l b
  cases E:xka (ev T X) (evl T r) with
  | none=>rw[E] at f;cases f
  | some y=>
    rw[E] at f
    injection f with f
    injection f with hx1 hx2
    subst hx1 hx2
    obtain⟨u,s,C⟩:=yfa (P:=P) (w:=w) (QB o r) (jL o X) E
    refine⟨.value u,u,w,g,?_,.inl rfl,Good.refl G hB,C⟩
    simp[resolve,invoke,builtin,Builtin.max_,s]
 ·rename_i L X r l b
  simp only at l b
  subst l b
  cases E:xla (ev T X) (evl T r) with
  | none=>rw[E] at f;cases f
  | some y=>
    rw[E] at f
    injection f with f
    injection f with hx1 hx2
    subst hx1 hx2
    obtain⟨u,s,C⟩:=yga (P:=P) (w:=w) (QB o r) (jL o X) E
    refine⟨.value u,u,w,g,?_,.inl rfl,Good.refl G hB,C⟩
    simp[resolve,invoke,builtin,Builtin.min_,s]
 ·cases f
theorem DidV.of{s:Sem Value}{t:Sem Next}(d:DidV P s B w g h x h')(e:t=(do pure (.value (<-s)))):Did P t B w g h x h':=e▸d.did
theorem jH{s:Sem Next}{v:Value}(c:HOk B w g h)(hB:B<=w.heap.size)(a:s.run P w= .ok (.value v) w)(b:AR (ctx w g h) x v):Did P s B w g h x h:=
 ⟨.value v,v,w,g,a,.inl rfl,Good.refl c hB,b⟩
theorem jta(G:HOk B w g h)(hB:B<=w.heap.size)(H:wF (ctx w g h) T a)(o:Oper)(C:qc P T h o.op=some (x,h')):Did P (execOp a.eval o) B w g h x h':=by
 obtain⟨dst,op,type,pos,after,guard⟩:=o
 simp only at C
 have alloc:(jA P T op).map (λq=>(q.2 h.length,h++[q.1]))=some (x,h')->Did P (execOp a.eval ⟨dst,op,type,pos,after,guard⟩) B w g h x h':=λC=>by
  cases ha:jA P T op with
  | none=>rw[ha] at C;cases C
  | some q=>
    obtain⟨o,mk⟩:=q
    rw[ha] at C
    injection C with C
    injection C with hx1 hx2
    subst hx1 hx2
    obtain⟨v,w',W,m⟩:=Yd G hB H ha dst type pos after guard
    obtain⟨g',e2,e3⟩:=m.more G hB
    exact⟨.value v,v,w',g',W,.inl rfl,e2,e3⟩
 unfold qc at C
 split at C
 case h_1 y=>
  injection C with C;injection C with hx1 hx2;subst hx1 hx2
  exact jH G hB (by simp[execOp]) (jL H y)
 case h_2 y=>
  injection C with C;injection C with hx1 hx2;subst hx1 hx2
  exact jH G hB (by simp[execOp]) (jL H y)
 case h_3 c y z=>
  split at C
  ·rename_i t K
   injection C with C;injection C with hx1 hx2;subst hx1 hx2
   have e:=Zc H K
   cases t
   ·exact jH G hB (v:=a.eval z) (by simp[execOp,e,asBool]) (jL H z)
   ·exact jH G hB (v:=a.eval y) (by simp[execOp,e,asBool]) (jL H y)
  ·cases C
 case h_4 t=>exact alloc C
 case h_5 t y=>exact alloc C
 case h_6 t n ps=>exact alloc C
 case h_7 t l c=>exact alloc C
 case h_8 t r=>exact alloc C
 case h_9 t ps=>
  split at C
  ·rename_i fs D
   split at C
   ·rename_i M
    cases hz:(zO P t).zero with
    | none=>rw[hz] at C;cases C
    | some z=>
      rw[hz] at C
      simp only[Option.bind_some] at C
      cases K:yA (XL P fs) (z.map .v) (evs T ps.toList) with
      | none=>rw[K] at C;cases C
      | some cs=>
        rw[K] at C
        injection C with C;injection C with hx1 hx2;subst hx1 hx2
        exact(Zca G hB H D M hz K).of rfl
   ·cases C
  ·rename_i m e D
   split at C
   ·rename_i M
    cases hz:(zO P t).zero with
    | none=>rw[hz] at C;cases C
    | some z=>
      rw[hz] at C
      simp only[Option.bind_some] at C
      cases K:yA (Zq (zO P e).sz) (z.map .v) (evs T ps.toList) with
      | none=>rw[K] at C;cases C
      | some cs=>
        rw[K] at C
        injection C with C;injection C with hx1 hx2;subst hx1 hx2
        exact(zZa G hB H D M hz K).of rfl
   ·cases C
  ·cases C
 case h_10 t p=>
  cases Q:Jc h (zO P t) (ev T p) with
  | none=>rw[Q] at C;cases C
  | some y=>
    rw[Q] at C
    injection C with C;injection C with hx1 hx2;subst hx1 hx2
    exact(xqa G hB (jL H p) Q).of rfl
 case h_11 t p y=>
  split at C
  ·rename_i ht
   cases K:(ev T y).cells with
   | none=>rw[K] at C;cases C
   | some ns=>
     rw[K] at C
     simp only[Option.bind_some] at C
     split at C
     ·rename_i Q
      cases hs:Zr h ns (ev T p) with
      | none=>rw[hs] at C;cases C
      | some h2=>
        rw[hs] at C
        injection C with C;injection C with hx1 hx2;subst hx1 hx2
        obtain⟨w',g',W,e2⟩:=Zda G hB (jL H p) (jL H y) ht K Q hs
        exact⟨.skip,undef,w',g',by simp[execOp,W],.inr ⟨rfl,rfl⟩,e2,rfl⟩
     ·cases C
  ·cases C
 case h_12 y=>
  have E:=jL H y
  split at C
  ·rename_i id off J
   injection C with C;injection C with hx1 hx2;subst hx1 hx2
   rw[J] at E
   obtain⟨q,e⟩:=E
   exact jH G hB (v:=a.eval y) (by simp[execOp,e]) ⟨q,e⟩
  ·rename_i c e i k J
   injection C with C;injection C with hx1 hx2;subst hx1 hx2
   rw[J] at E
   obtain⟨A,m,cp,q1,q2,e⟩:=E
   exact jH G hB (v:=a.eval y) (by simp[execOp,e]) ⟨A,m,cp,q1,q2,e⟩
  ·rename_i f p q J
   injection C with C;injection C with hx1 hx2;subst hx1 hx2
   rw[J] at E
   obtain⟨us,vs,e,q⟩:=E
   exact jH G hB (v:=a.eval y) (by simp[execOp,e]) ⟨us,vs,e,q⟩
  ·cases C
 case h_13 op t y z _=>
  split at C
  ·rename_i hn
   cases hb:xma P h op t (ev T y) with
   | none=>rw[hb] at C;cases C
   | some r=>
     rw[hb] at C
     injection C with C;injection C with hx1 hx2;subst hx1 hx2
     exact(KDa G hB H hn hb).of rfl
  ·cases hb:QUa P op t (ev T y) (ev T z) with
   | none=>rw[hb] at C;cases C
   | some r=>
     rw[hb] at C
     injection C with C;injection C with hx1 hx2;subst hx1 hx2
     exact(KCa G hB H hb).of rfl
 case h_14 op _ y=>
  split at C
  ·rename_i k n J
   injection C with C;injection C with hx1 hx2;subst hx1 hx2
   have e:=Zc H J
   exact jH G hB (by simp[execOp,e,Op.unary,Op.intArith]) rfl
  ·rename_i b J
   injection C with C;injection C with hx1 hx2;subst hx1 hx2
   have e:=Zc H J
   exact jH G hB (by simp[execOp,e,Op.unary]) rfl
  ·cases C
 case h_15 s d y=>
  split at C
  ·rename_i k k' n hs hd J
   injection C with C;injection C with hx1 hx2;subst hx1 hx2
   have e:=Zc H J
   obtain⟨d1,i1,hu1,hi1,eq1⟩:=jt hs
   obtain⟨d2,Z,O,N,I⟩:=jt (jx hd (by simp))
   rw[I] at hd
   cases d2<;>try (cases hd;done)
   injection hd with hd
   subst hd
   refine jH G hB (v:= .int _ (IntKind.wrap _ n)) ?_ rfl
   simp[execOp,e,convert,run_underlying hu1,run_underlying O,Conv.intToInt]
  ·rename_i rows hs hd J
   cases ξ:KAa P s rows with
   | none=>rw[ξ] at C;cases C
   | some z=>
     rw[ξ] at C
     injection C with C;injection C with hx1 hx2;subst hx1 hx2
     have E:=jL H y
     rw[J] at E
     obtain⟨u,hr,eu⟩:=QYa G E hs hd ξ
     exact jH G hB (v:=u) (by simp[execOp,hr]) eu
  ·cases C
 case h_16 f p q=>
  injection C with C;injection C with hx1 hx2;subst hx1 hx2
  refine jH G hB (v:= .func f (p.map a.eval) (q.map a.eval)) (by simp[execOp,Instr.makeFunc]) ⟨_,_,rfl,?_,?_⟩
  ·simpa using QB H p.toList
  ·simpa using QB H q.toList
 case h_17 t y i=>
  have E:=jL H y
  split at C
  ·rename_i fs D
   cases M:fs[i]? with
   | none=>rw[M] at C;cases C
   | some f=>
     rw[M] at C
     simp only[Option.bind_some] at C
     split at C
     ·rename_i K
      obtain⟨d,ii,U,X,eq⟩:=jt (jx D (by simp))
      rw[eq] at D
      cases d<;>try (cases D;done)
      rename_i fields
      injection D with D
      obtain⟨d2,Z,O,N,I⟩:=jt K.1
      have γ:Z.size≠0:=by have:=K.2;rw[I] at this;simp at this;omega
      rw[<-D,zx] at M
      cases S:fields.toList[i]? with
      | none=>rw[S] at M;cases M
      | some F=>
        rw[S] at M
        injection M with M
        subst M
        have V:fields[i]? =some F:=by simpa using S
        split at C
        ·rename_i id off J
         injection C with C;injection C with hx1 hx2;subst hx1 hx2
         rw[J] at E
         obtain⟨q,e⟩:=E
         refine jH G hB (v:= .pointer (some ⟨g.β id,off+F.offset,none⟩)) ?_ ⟨q,rfl⟩
         simp[execOp,e,Instr.fieldAt,run_underlying U,V,Instr.sureAddr,fieldPlace,sizeOf,typeInfo,N,γ,Addr.add_lit,ctx]
        ·rename_i c e' j k J
         injection C with C;injection C with hx1 hx2;subst hx1 hx2
         rw[J] at E
         obtain⟨A,m,cp,q1,q2,e⟩:=E
         refine jH G hB (v:= .pointer (some (A.add (j*e'+(k+F.offset))))) ?_ ⟨A,m,cp,q1,q2,rfl⟩
         simp[execOp,e,Instr.fieldAt,run_underlying U,V,Instr.sureAddr,fieldPlace,sizeOf,typeInfo,N,γ,Addr.add_add,Nat.add_assoc]
        ·cases C
     ·cases C
  ·cases C
 case h_19 t y i=>
  have E:=jL H y
  split at C
  ·rename_i e k n D J
   split at C
   ·rename_i K
    have W:=Zc H J
    obtain⟨d,ii,U,X,eq⟩:=jt (jx D (by simp))
    rw[eq] at D
    cases d<;>try (cases D;done)
    injection D with D
    subst D
    obtain⟨d2,Z,O,N,I⟩:=jt K.1
    cases L:vra h n (ev T y) with
    | none=>rw[L] at C;cases C
    | some z=>
      rw[L] at C
      injection C with C;injection C with hx1 hx2;subst hx1 hx2
      unfold vra at L
      cases hr:z6 h (ev T y) with
      | none=>rw[hr] at L;cases L
      | some xs=>
        rw[hr,K.2.2] at L
        simp only[Option.bind_some] at L
        split at L
        ·rename_i hn
         injection L with L
         subst L
         obtain⟨A,cp,q1,q2,q3,_⟩:=wu G _ E hr
         have hra:=q3 _ K.2.2
         have μ:n.toNat<xs.length:=by omega
         have hA:∃ad,A=some ad:=by
          have hrow:xs[n.toNat]? =some xs[n.toNat]:=zi μ
          have h0:=K.2.1
          have Q:=hra.len _ (zD μ)
          obtain⟨ad,u,z1,_⟩:=hra.cell _ 0 _ (nth xs[n.toNat] 0) hrow (ZS (by omega))
          exact⟨ad,z1⟩
         obtain⟨ad,rfl⟩:=hA
         refine jH G hB (v:= .pointer (some (ad.add (n.toNat*Z.size)))) ?_ ⟨ad,xs.length,cp,by rw[<-q1];exact E,μ,by rw[I,Nat.add_zero]⟩
         simp[execOp,W,q1,Instr.indexAt,asIntOf,run_underlying U,sizeOf,typeInfo,N,hn.1,hn.2]
        ·cases L
   ·cases C
  ·rename_i m e k n D J
   split at C
   ·rename_i K
    obtain⟨c1,c2,c3⟩:=K
    have W:=Zc H J
    obtain⟨d,ii,U,X,eq⟩:=jt (jx D (by simp))
    rw[eq] at D
    cases d<;>try (cases D;done)
    injection D with hk1 hk2
    subst hk1 hk2
    obtain⟨d2,Z,O,N,I⟩:=jt c1
    split at C
    ·rename_i id off υ
     injection C with C;injection C with hx1 hx2;subst hx1 hx2
     rw[υ] at E
     obtain⟨q,e⟩:=E
     refine jH G hB (v:= .pointer (some ⟨g.β id,off+n.toNat*Z.size,none⟩)) ?_ ⟨q,by rw[I];rfl⟩
     simp[execOp,W,e,Instr.indexAt,asIntOf,run_underlying U,Instr.sureAddr,sizeOf,typeInfo,N,c2,c3,Addr.add_lit,ctx]
    ·rename_i c e' j k2 υ
     injection C with C;injection C with hx1 hx2;subst hx1 hx2
     rw[υ] at E
     obtain⟨A,m',cp,q1,q2,e⟩:=E
     refine jH G hB (v:= .pointer (some (A.add (j*e'+(k2+n.toNat*Z.size))))) ?_ ⟨A,m',cp,q1,q2,by rw[I]⟩
     simp[execOp,W,e,Instr.indexAt,asIntOf,run_underlying U,Instr.sureAddr,sizeOf,typeInfo,N,c2,c3,Addr.add_add,Nat.add_assoc]
    ·cases C
   ·cases C
  ·cases C
 case h_18 t y i=>
  have E:=jL H y
  split at C
  ·rename_i fs cs D J
   cases M:fs[i]? with
   | none=>rw[M] at C;cases C
   | some f=>
     rw[M] at C
     simp only[Option.bind_some] at C
     split at C
     ·rename_i ho
      obtain⟨d,ii,U,X,eq⟩:=jt (jx D (by simp))
      rw[eq] at D
      cases d<;>try (cases D;done)
      rename_i fields
      injection D with D
      rw[<-D,zx] at M
      cases S:fields.toList[i]? with
      | none=>rw[S] at M;cases M
      | some F=>
        rw[S] at M
        injection M with M
        subst M
        have V:fields[i]? =some F:=by simpa using S
        rw[J] at E
        obtain⟨vs,e,q⟩:=E
        cases hp:part cs F.offset (zO P F.type).agg (zO P F.type).sz with
        | none=>rw[hp] at C;cases C
        | some r=>
          rw[hp] at C
          injection C with C;injection C with hx1 hx2;subst hx1 hx2
          obtain⟨u,z1,z2⟩:=xva (P:=P) (w:=w) ho q hp
          exact jH G hB (v:=u) (by simp[execOp,e,Instr.field,run_underlying U,V,asAgg,z1]) z2
     ·cases C
  ·cases C
 case h_20 t y i=>
  have E:=jL H y
  split at C
  ·rename_i m e cs k n D J hi
   split at C
   ·rename_i K
    obtain⟨c1,c2,c3⟩:=K
    have W:=Zc H hi
    obtain⟨d,ii,U,X,eq⟩:=jt (jx D (by simp))
    rw[eq] at D
    cases d<;>try (cases D;done)
    injection D with hk1 hk2
    subst hk1 hk2
    rename_i m e
    obtain⟨d2,Z,O,N,I⟩:=jt c1
    rw[J] at E
    obtain⟨vs,ee,q⟩:=E
    cases hp:part cs (n.toNat*(zO P e).sz) (zO P e).agg (zO P e).sz with
    | none=>rw[hp] at C;cases C
    | some r=>
      rw[hp] at C
      injection C with C;injection C with hx1 hx2;subst hx1 hx2
      obtain⟨u,z1,z2⟩:=xva (P:=P) (w:=w) c1 q hp
      have γ:(zO P e).sz=Z.size:=by rw[I]
      rw[γ] at z1
      exact jH G hB (v:=u) (by simp[execOp,W,ee,Instr.index,asIntOf,run_underlying U,sizeOf,typeInfo,N,c2,c3,z1]) z2
   ·cases C
  ·cases C
 case h_21 t y lo hi=>
  split at C
  ·rename_i e D
   cases hr:z6 h (ev T y) with
   | none=>rw[hr] at C;cases C
   | some xs=>
     rw[hr] at C
     simp only[Option.bind_some] at C
     cases Q:ZU T 0 lo with
     | none=>rw[Q] at C;cases C
     | some l=>
       rw[Q] at C
       simp only[Option.bind_some] at C
       cases hm:ZU T xs.length hi with
       | none=>rw[hm] at C;cases C
       | some m=>
         rw[hm] at C
         simp only[Option.bind_some] at C
         split at C
         ·rename_i K
          obtain⟨c1,c2,c3,c4,c5⟩:=K
          injection C with C;injection C with hx1 hx2;subst hx1 hx2
          exact(Zfa G hB H D hr Q hm c1 c2 c3 c4 c5).of rfl
         ·cases C
  ·cases C
 case h_22 t m k v=>
  split at C
  ·rename_i kt et id kk n D hm Y
   split at C
   ·rename_i kk' es R ho
    split at C
    ·rename_i heq
     subst heq
     cases hi:Jh kk' n (ev T v) es with
     | none=>rw[hi] at C;cases C
     | some es'=>
       rw[hi] at C
       injection C with C;injection C with hx1 hx2;subst hx1 hx2
       obtain⟨d,ii,U,X,eq⟩:=jt (jx D (by simp))
       rw[eq] at D
       cases d<;>try (cases D;done)
       injection D with hk1 hk2
       subst hk1 hk2
       obtain⟨d2,Z,O,hin2,I⟩:=jt (jx R (by simp))
       rw[I] at R
       cases d2<;>try (cases R;done)
       have W:=Zc H Y
       have E:=jL H m
       rw[hm] at E
       obtain⟨q,e2⟩:=E
       obtain⟨w',r1,r2⟩:=vwa (P:=P) G hB U O ho (jL H v) hi
       refine⟨.skip,undef,w',g,?_,.inr ⟨rfl,rfl⟩,r2,rfl⟩
       simp only[execOp,W,e2]
       have e3:(ctx w g h).β id=g.β id:=rfl
       rw[e3,Sem.run_bind,r1]
       rfl
    ·cases C
   ·cases C
  ·cases C
 case h_23 t m k ok=>
  split at C
  ·rename_i kt et id kk n D hm Y
   split at C
   ·rename_i kk' es z R ho hz
    split at C
    ·rename_i heq
     subst heq
     cases Q:xna kk' n z es with
     | none=>rw[Q] at C;cases C
     | some p=>
       rw[Q] at C
       injection C with C;injection C with hx1 hx2;subst hx1 hx2
       unfold xna at Q
       split at Q
       ·rename_i hko
        injection Q with Q
        subst Q
        obtain⟨d,ii,U,X,eq⟩:=jt (jx D (by simp))
        rw[eq] at D
        cases d<;>try (cases D;done)
        injection D with hk1 hk2
        subst hk1 hk2
        obtain⟨d2,Z,O,hin2,I⟩:=jt (jx R (by simp))
        rw[I] at R
        cases d2<;>try (cases R;done)
        have W:=Zc H Y
        have E:=jL H m
        rw[hm] at E
        obtain⟨q,e2⟩:=E
        obtain⟨zu,z1,z2⟩:=QXa (P:=P) (w:=w) (c:=ctx w g h) hz
        obtain⟨p1,es0,k0,l',p2,p3,p4,p5⟩:=G.ok id _ ho
        obtain⟨u,u1,u2⟩:=Yh (P:=P) (n:=n) (ok:=ok) U O p2 p3 p4 p5 hko z1 z2
        refine jH G hB (v:=u) ?_ u2
        simp only[execOp,W,e2,Sem.run_bind,u1]
        rfl
       ·cases Q
    ·cases C
   ·cases C
  ·cases C
 case h_24 y i=>
  have E:=jL H y
  split at C
  ·rename_i cs J
   split at C
   ·rename_i hi
    injection C with C;injection C with hx1 hx2;subst hx1 hx2
    rw[J] at E
    obtain⟨vs,e,q⟩:=E
    obtain⟨u,q1,q2⟩:=wg q i hi
    have q1':vs[i]? =some u:=by simpa using q1
    exact jH G hB (v:=u) (by simp[execOp,e,Instr.extract,q1']) q2
   ·cases C
  ·cases C
 case h_25 c=>exact QZa G hB H C
 case h_26=>cases C
end
section
variable {φ:Nat->Ob} {h h':List Ob} {P:Program} {x:AV} {T:Nat->AV} {i:Nat} {o:Ob}
theorem Zs:∀(a:AV) {e:Nat},eOf h a=some e->eOf (fill φ h) a=some e
 | .sl _ _,_,b=>b
 | .tl id st,e,b=>by
   simp only[eOf] at b⊢
   split at b
   ·rename_i ty f ys s d
    rw[qy d rfl]
    exact b
   ·cases b
 | .vw a j i n,e,b=>by
   simp only[eOf] at b⊢
   cases c:eOf h a with
   | none=>rw[c] at b;cases b
   | some g=>rw[c] at b;rw[Zs a c];exact b
 | .v _,_,b | .em,_,b | .ptr _ _,_,b | .ep _ _ _ _,_,b | .mp _,_,b | .ag _,_,b | .tup _,_,b | .fn _ _ _,_,b | .bad,_,b=>by cases b
theorem xT:∀(a:AV) {xs:List (List AV)},z6 h a=some xs->z6 (fill φ h) a=some xs
 | .sl _ _,_,b=>b
 | .em,_,b=>b
 | .tl id st,xs,b=>by
   simp only[z6] at b⊢
   split at b
   ·rename_i ty g ys s f
    rw[qy f rfl]
    exact b
   ·cases b
 | .vw a e i n,xs,b=>by
   simp only[z6] at b⊢
   cases c:z6 h a with
   | none=>rw[c] at b;cases b
   | some ys=>
     rw[c] at b
     rw[xT a c]
     simp only[Option.bind_some] at b⊢
     split at b
     ·rename_i d
      rw[if_pos ⟨d.1,d.2.imp id (Zs a)⟩]
      exact b
     ·cases b
 | .v x,xs,b=>by
   unfold z6 at b⊢
   split at b
   ·rename_i heq;cases heq
   ·rename_i heq;cases heq
   ·rename_i heq;cases heq
   ·rename_i heq;cases heq;exact b
   ·rename_i heq;cases heq
   ·cases b
 | .ptr _ _,_,b | .ep _ _ _ _,_,b | .mp _,_,b | .ag _,_,b | .tup _,_,b | .fn _ _ _,_,b | .bad,_,b=>by cases b
theorem xwa(a:AV)(b:XM h a=true):XM (fill φ h) a=true:=by
 unfold XM at b⊢
 rw[Bool.or_eq_true] at b⊢
 refine b.imp id λb=>?_
 cases c:z6 h a with
 | none=>rw[c] at b;cases b
 | some xs=>cases d:eOf h a with
   | none=>rw[c,d] at b;cases xs<;>cases b
   | some e=>rw[c,d] at b;rw[xT a c,Zs a d];exact b
theorem Zha{op:BinOp}{t:TypeId}(a:AV)(b:xma P h op t a=some x):xma P (fill φ h) op t a=some x:=by
 unfold xma at b⊢
 cases e:(zO P t).kind<;>rw[e] at b<;>first
  | cases b;done
  | skip
 simp only at b⊢
 cases d:vu a with
 | true=>rw[d] at b;exact b
 | false=>
   rw[d] at b
   simp only[Bool.false_eq_true,if_false] at b⊢
   split at b
   ·rename_i c
    rw[if_pos (xwa _ c)];exact b
   ·cases b
theorem Yi{τ:Ty}:∀(a:AV),Jc h τ a=some x->Jc (fill φ h) τ a=some x
 | .ptr id off,b=>by
   simp only[Jc] at b⊢
   split at b
   ·rename_i f
    simp only[qy f rfl]
    exact b
   ·cases b
 | .ep a e i k,b=>by
   simp only[Jc] at b⊢
   split at b
   ·rename_i d
    rw[if_pos ⟨d.1,Zs _ d.2⟩]
    cases c:z6 h a with
    | none=>rw[c] at b;cases b
    | some xs=>rw[c] at b;rw[xT _ c];exact b
   ·cases b
 | .sl _ _,b | .tl _ _,b | .em,b | .vw _ _ _ _,b | .v _,b | .mp _,b | .ag _,b | .tup _,b | .fn _ _ _,b | .bad,b=>by cases b
theorem Zia{n:Int}(a:AV)(b:vra h n a=some x):vra (fill φ h) n a=some x:=by
 unfold vra at b⊢
 cases c:z6 h a with
 | none=>rw[c] at b;cases b
 | some xs=>
   rw[c] at b
   cases d:eOf h a with
   | none=>rw[d] at b;cases b
   | some e=>rw[d] at b;rw[xT a c,Zs a d];exact b
theorem xxa{ns:List AV}:∀(a:AV),Zr h ns a=some h'->Zr (fill φ h) ns a=some (fill φ h')/\ResK h h'
 | .ptr id off,b=>by
   simp only[Zr] at b⊢
   split at b
   ·rename_i ty cs c
    simp only[qy c rfl]
    cases d:lay cs off ns with
    | none=>rw[d] at b;cases b
    | some cs'=>
      rw[d] at b
      injection b with b
      subst b
      exact⟨by rw[jc rfl];rfl,qj c rfl⟩
   ·cases b
 | .ep (.tl id st) e i k,b=>by
   simp only[Zr] at b⊢
   split at b
   ·rename_i ty j xs s c
    simp only[qy c rfl]
    split at b
    ·rename_i f
     rw[if_pos f]
     cases hi:xs[i]? with
     | none=>rw[hi] at b;cases b
     | some r=>
       rw[hi] at b
       simp only[Option.bind_some] at b⊢
       cases d:lay r k ns with
       | none=>rw[d] at b;cases b
       | some g=>
         rw[d] at b
         injection b with b
         subst b
         exact⟨by rw[jc rfl];rfl,qj c rfl⟩
    ·cases b
   ·cases b
 | .ep (.sl _ _) _ _ _,b | .ep .em _ _ _,b | .ep (.vw _ _ _ _) _ _ _,b | .ep (.v _) _ _ _,b | .ep (.ptr _ _) _ _ _,b | .ep (.ep _ _ _ _) _ _ _,b | .ep (.mp _) _ _ _,b | .ep (.ag _) _ _ _,b | .ep (.tup _) _ _ _,b | .ep (.fn _ _ _) _ _ _,b | .ep .bad _ _ _,b=>by cases b
 | .sl _ _,b | .tl _ _,b | .em,b | .vw _ _ _ _,b | .v _,b | .mp _,b | .ag _,b | .tup _,b | .fn _ _ _,b | .bad,b=>by cases b
theorem jua(f:Upto φ h.length){e:TypeId}(s y:AV)(a:QA P h e s y=some (x,h')):QA P (fill φ h) e s y=some (x,fill φ h')/\ResK h h':=by
 unfold QA at a⊢
 cases c:z6 h y with
 | none=>simp[c] at a
 | some ys=>
   rw[xT y c]
   simp only[c,Option.bind_some] at a⊢
   split at a
   ·rename_i g
    rw[if_pos g]
    split at a
    ·split at a
     ·rename_i id st ty i xs s d
      simp only[qy d rfl]
      split at a
      ·rename_i b
       rw[if_pos b]
       injection a with a
       injection a with h1 h2
       subst h1 h2
       exact⟨by rw[jc rfl],qj d rfl⟩
      ·cases a
     ·cases a
    ·split at a
     ·rename_i b
      simp only[if_pos b]
      injection a with a
      injection a with h1 h2
      subst h1 h2
      exact⟨by rw[jC f,q9],qS⟩
     ·cases a
    ·cases a
   ·cases a
theorem Kv{q:Nat × Nat × Nat × Nat}:∀(y:AV),kX h y=some q->kX (fill φ h) y=some q
 | .tl id st,a=>by
   simp only[kX] at a⊢
   split at a
   ·rename_i b;simp only[qy b rfl];exact a
   ·cases a
 | .vw (.tl id st) e i n,a=>by
   simp only[kX] at a⊢
   split at a
   ·rename_i b;simp only[qy b rfl];exact a
   ·cases a
 | .vw (.sl _ _) _ _ _,a | .vw .em _ _ _,a | .vw (.vw _ _ _ _) _ _ _,a | .vw (.v _) _ _ _,a | .vw (.ptr _ _) _ _ _,a | .vw (.ep _ _ _ _) _ _ _,a | .vw (.mp _) _ _ _,a | .vw (.ag _) _ _ _,a | .vw (.tup _) _ _ _,a | .vw (.fn _ _ _) _ _ _,a | .vw .bad _ _ _,a=>by cases a
 | .sl _ _,a | .em,a | .ptr _ _,a | .ep _ _ _ _,a | .v _,a | .mp _,a | .ag _,a | .tup _,a | .fn _ _ _,a | .bad,a=>by cases a
theorem Kw{id i ty e:Nat}{ys:List (List AV)}(a:vC h id i ty e ys=some h'):vC (fill φ h) id i ty e ys=some (fill φ h')/\ResK h h':=by
 unfold vC at a⊢
 split at a
 ·rename_i b
  simp only[qy b rfl]
  split at a
  ·rename_i c
   rw[if_pos c]
   injection a with a
   subst a
   exact⟨by rw[jc rfl],qj b rfl⟩
  ·cases a
 ·cases a
theorem vxa(r:Upto φ h.length)(c:Call)(a:Qc P T h c=some (x,h')):Qc P T (fill φ h) c=some (x,fill φ h')/\ResK h h':=by
 unfold Qc at a⊢
 split at a
 ·split at a
  ·rename_i e g
   cases b:z6 h (ev T _) with
   | none=>rw[b] at a;cases a
   | some xs=>
     rw[b] at a
     injection a with a;injection a with h1 d;subst h1 d
     simp only[g,xT _ b]
     exact⟨rfl,.refl⟩
  ·cases a
 ·split at a
  ·rename_i e g
   split at a
   ·rename_i s
    simp only[g,if_pos s]
    exact jua r _ _ a
   ·cases a
  ·cases a
 ·split at a
  ·rename_i e g
   cases f:kX h (ev T _) with
   | none=>rw[f] at a;cases a
   | some q=>
     obtain⟨id,st,i,n⟩:=q
     rw[f] at a
     simp only[Option.bind_some] at a
     cases m:(zO P e).zero with
     | none=>rw[m] at a;cases a
     | some z=>
       rw[m] at a
       simp only[Option.bind_some] at a
       split at a
       ·rename_i k
        cases b:vC h id i e (zO P e).sz (List.replicate n (z.map .v)) with
        | none=>rw[b] at a;cases a
        | some d=>
          rw[b] at a
          injection a with a;injection a with h1 d;subst h1 d
          obtain⟨o,l⟩:=Kw (φ:=φ) b
          simp only[g,Kv _ f,Option.bind_some,m,if_pos k,o]
          exact⟨rfl,l⟩
       ·cases a
  ·cases a
 ·split at a
  ·rename_i e g
   split at a
   ·rename_i k
    cases f:kX h (ev T _) with
    | none=>rw[f] at a;cases a
    | some q=>
      obtain⟨id,st,i,n⟩:=q
      rw[f] at a
      simp only[Option.bind_some] at a
      cases p:z6 h (ev T _) with
      | none=>rw[p] at a;cases a
      | some ys=>
        rw[p] at a
        simp only[Option.bind_some] at a
        cases b:vC h id i e (zO P e).sz (ys.take n) with
        | none=>rw[b] at a;cases a
        | some d=>
          rw[b] at a
          injection a with a;injection a with h1 d;subst h1 d
          obtain⟨o,l⟩:=Kw (φ:=φ) b
          simp only[g,if_pos k,Kv _ f,Option.bind_some,xT _ p,o]
          exact⟨rfl,l⟩
   ·cases a
  ·cases a
 ·cases j:xka _ _ with
  | none=>rw[j] at a;cases a
  | some y=>
    rw[j] at a
    injection a with a;injection a with h1 d;subst h1 d
    exact⟨rfl,.refl⟩
 ·cases j:xla _ _ with
  | none=>rw[j] at a;cases a
  | some y=>
    rw[j] at a
    injection a with a;injection a with h1 d;subst h1 d
    exact⟨rfl,.refl⟩
 ·cases a
theorem xya{op:Op}{mk:Nat->AV}(a:jA P T op=some (o,mk)):o.isRes=false:=by
 unfold jA at a
 repeat' split at a
 all_goals first
  | cases a;done
  | (simp only[Option.map_eq_some_iff,Prod.mk.injEq] at a;obtain⟨_,_,rfl,_⟩:=a;rfl)
  | (injection a with a;injection a with h1 h2;subst h1;rfl)
theorem xH{α:Type}{y:Option α}{f:α->AV}(b:(y.map λa=>(f a,h))=some (x,h')):∃a,y=some a/\f a=x/\h=h':=by
 cases y with
 | none=>cases b
 | some a=>injection b with b;injection b with h1 h2;exact⟨a,rfl,h1,h2⟩
theorem ZW(I:Upto φ h.length)(op:Op)(b:qc P T h op=some (x,h')):qc P T (fill φ h) op=some (x,fill φ h')/\ResK h h':=by
 have alloc:∀s,(jA P T s).map (λq=>(q.2 h.length,h++[q.1]))=some (x,h')->(jA P T s).map (λq=>(q.2 (fill φ h).length,fill φ h++[q.1]))=some (x,fill φ h')/\ResK h h':=λs b=>by
  cases J:jA P T s with
  | none=>rw[J] at b;cases b
  | some q=>
    rw[J] at b
    injection b with b;injection b with g d;subst g d
    exact⟨by rw[jC I,q9];rfl,qS⟩
 have same:∀ {y:AV},some (y,h)=some (x,h')->some (y,fill φ h)=some (x,fill φ h')/\ResK h h':=λe=>by
  injection e with e;injection e with g d;subst g d;exact⟨rfl,.refl⟩
 cases op with
 | move y=>exact same b
 | assign y=>exact same b
 | makeFunc f p q=>exact same b
 | alloc t=>exact alloc _ b
 | box t y=>exact alloc _ b
 | buildSlice t n C=>exact alloc _ b
 | makeSlice t l c=>exact alloc _ b
 | makeMap t r=>exact alloc _ b
 | call c=>exact vxa I c b
 | load t y=>
   obtain⟨a,g,d,o⟩:=xH b
   subst d o
   exact⟨by simp only[qc,Yi _ g];rfl,.refl⟩
 | store t y z=>
   simp only[qc] at b⊢
   split at b
   ·rename_i O
    cases j:(ev T z).cells with
    | none=>rw[j] at b;cases b
    | some ns=>
      rw[j] at b
      simp only[Option.bind_some] at b
      split at b
      ·rename_i A
       cases D:Zr h ns (ev T y) with
       | none=>rw[D] at b;cases b
       | some d=>
         rw[D] at b
         injection b with b;injection b with g d;subst g d
         obtain⟨N,M⟩:=xxa (φ:=φ) _ D
         exact⟨by simp only[if_pos O,j,Option.bind_some,if_pos A,N];rfl,M⟩
      ·cases b
   ·cases b
 | binOp op t y z u=>
   simp only[qc] at b⊢
   split at b
   ·rename_i F
    obtain⟨a,g,d,o⟩:=xH b
    subst d o
    exact⟨by simp only[if_pos F,Zha _ g];rfl,.refl⟩
   ·rename_i F
    obtain⟨a,g,d,o⟩:=xH b
    subst d o
    exact⟨by simp only[if_neg F,g];rfl,.refl⟩
 | indexAddr t y z=>
   simp only[qc] at b⊢
   split at b
   ·split at b
    ·rename_i j
     obtain⟨a,g,d,o⟩:=xH b
     subst d o
     exact⟨by simp only[if_pos (show _/\_/\_ from⟨j.1,j.2.1,Zs (φ:=φ) _ j.2.2⟩),Zia _ g];rfl,.refl⟩
    ·cases b
   ·split at b
    ·rename_i j
     simp only[if_pos j]
     split at b
     ·exact same b
     ·exact same b
     ·cases b
    ·cases b
   ·cases b
 | slice t y lo hi L=>
   cases L with
   | some m=>cases b
   | none=>
     simp only[qc] at b⊢
     split at b
     ·rename_i e Q
      cases E:z6 h (ev T y) with
      | none=>rw[E] at b;cases b
      | some xs=>
        rw[E] at b
        simp only[xT _ E,Option.bind_some] at b⊢
        cases A:ZU T 0 lo with
        | none=>rw[A] at b;cases b
        | some l=>
          rw[A] at b
          simp only[Option.bind_some] at b⊢
          cases H:ZU T xs.length hi with
          | none=>rw[H] at b;cases b
          | some m=>
            rw[H] at b
            simp only[Option.bind_some] at b⊢
            split at b
            ·rename_i j
             rw[if_pos ⟨j.1,j.2.1,j.2.2.1,j.2.2.2.1,j.2.2.2.2.imp id λk=>⟨k.1,Zs _ k.2⟩⟩]
             exact same b
            ·cases b
     ·cases b
 | insert t m k v=>
   simp only[qc] at b⊢
   split at b
   ·split at b
    ·rename_i kk' es w B
     simp only[qy B rfl]
     split at b
     ·rename_i heq
      simp only[w,if_pos heq]
      cases hi:Jh _ _ (ev T v) es with
      | none=>rw[hi] at b;cases b
      | some es'=>
        rw[hi] at b
        injection b with b;injection b with g d;subst g d
        exact⟨by rw[jc rfl];rfl,qj B rfl⟩
     ·cases b
    ·cases b
   ·cases b
 | lookup t m k ok=>
   simp only[qc] at b⊢
   split at b
   ·split at b
    ·rename_i kk' es z w B K
     simp only[qy B rfl,K]
     split at b
     ·rename_i heq
      simp only[w,if_pos heq]
      cases A:xna _ _ z es with
      | none=>rw[A] at b;cases b
      | some p=>
        rw[A] at b
        exact same b
     ·cases b
    ·cases b
   ·cases b
 | build t C=>
   have h0:∀h,qc P T h (.build t C)=(qc P T [] (.build t C)).map λq=>(q.1,h):=λh=>by
    simp only[qc]
    split
    ·split
     ·cases (zO P t).zero with
      | none=>rfl
      | some z=>simp only[Option.bind_some];cases yA _ _ _<;>rfl
     ·rfl
    ·split
     ·cases (zO P t).zero with
      | none=>rfl
      | some z=>simp only[Option.bind_some];cases yA _ _ _<;>rfl
     ·rfl
    ·rfl
   rw[h0] at b⊢
   obtain⟨a,g,d,o⟩:=xH b
   subst d o
   exact⟨by rw[g];rfl,.refl⟩
 | fieldAddr t y i=>
   have h0:∀h,qc P T h (.fieldAddr t y i)=(qc P T [] (.fieldAddr t y i)).map λq=>(q.1,h):=λh=>by
    simp only[qc]
    split
    ·rename_i G _
     cases G[i]? with
     | none=>rfl
     | some f=>
       simp only[Option.bind_some]
       split
       ·split<;>rfl
       ·rfl
    ·rfl
   rw[h0] at b⊢
   obtain⟨a,g,d,o⟩:=xH b
   subst d o
   exact⟨by rw[g];rfl,.refl⟩
 | field t y i=>
   have h0:∀h,qc P T h (.field t y i)=(qc P T [] (.field t y i)).map λq=>(q.1,h):=λh=>by
    simp only[qc]
    split
    ·rename_i G _ _ _
     cases G[i]? with
     | none=>rfl
     | some f=>
       simp only[Option.bind_some]
       split
       ·cases part _ _ _ _<;>rfl
       ·rfl
    ·rfl
   rw[h0] at b⊢
   obtain⟨a,g,d,o⟩:=xH b
   subst d o
   exact⟨by rw[g];rfl,.refl⟩
 | _=>
   simp only[qc] at b⊢
   try cases b
   all_goals (repeat' split at b)
   all_goals first
    | cases b;done
    | exact same b
    | (obtain⟨a,g,d,o⟩:=xH b;subst d o;exact⟨by simp only[g];rfl,.refl⟩)
    | (rename_i j;rw[if_pos j];exact same b)
    | (rename_i j;rw[if_neg j];exact same b)
    | (rename_i j;rw[if_pos j];obtain⟨a,g,d,o⟩:=xH b;subst d o;exact⟨by simp only[g];rfl,.refl⟩)
end
