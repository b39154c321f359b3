import Derived.Test.YtjeehgkolepogaaGreatK01
import Derived.Laws.Pointers
import Derived.WalkSpells
import Derived.ChangeKeysEq
import Derived.Laws.BytesString
set_option linter.all false
namespace Go.Proofs.YtjeehgkolepogaaGreat.Ax
open Go Go.RowKit
section
variable {B:Nat} {w:World} {g:Gh} {h h':List Ob} {P:Program} {x:AV} {T:Nat->AV} {a:Act}
def eqFields_int(d:Nat):∀(l:List Field) (o:Nat) (xs ys:List AV) (t vs:List Value) (U V:Array Value) (r:Bool),
    vd P o (l.map λf=>(f.offset,f.type))=true->(l.all λf=>f.name != "_")=true->xs.length=l.length->xc xs ys=some r->ARs (ctx w g h) xs t->ARs (ctx w g h) ys vs->
    (∀j,t[j]? =U[o+j]?)->(∀j,vs[j]? =V[o+j]?)->(Op.eqFields (d+1) U V l).run P w= .ok r w
 | [],o,xs,ys,t,vs,U,V,r,_,_,s,a,_,_,_,_=>by
   have:xs=[]:=zy s;subst this;cases ys with
   | nil=>injection a with a;subst a;simp[Op.eqFields]
   | cons y ys=>cases a
 | f::l,o,xs,ys,t,vs,U,V,r,hi,G,s,a,W,O,N,L=>by
   cases xs with
   | nil=>cases s
   | cons x xs=>
     cases ys with
     | nil=> cases x<;>try (cases a;done)
             rename_i v;cases v<;>cases a
     | cons y ys=>
       cases x<;>try (cases a;done)
       rename_i x;cases x<;>try (cases a;done)
       rename_i k m;cases y<;>try (cases a;done)
       rename_i y;cases y<;>try (cases a;done)
       rename_i k' z;simp only[xc] at a;split at a
       ·rename_i T;subst T;cases J:xc xs ys with
        | none=>rw[J] at a;cases a
        | some R=>
          rw[J] at a;injection a with a;obtain⟨u,F,K,c,H⟩:=W;obtain⟨v,E,B,i,D⟩:=O;have c:u= .int k m:=c;have i:v= .int k z:=i;subst c i K B;simp only[List.map_cons,vd,zi,beq_iff_eq] at hi;obtain⟨⟨M,p⟩,hi⟩:=hi;simp only[List.all_cons,zi] at G;cases b:(zF P f.type).kind<;>rw[b] at p<;>try (cases p;done)
          rename_i kk;obtain⟨X,ii,e,S,eq⟩:=qS (qW b zh);rw[eq] at b;cases X<;>try (cases b;done)
          rename_i k2;have q:=N 0;have n:=L 0;simp only[List.getElem?_cons_zero,Nat.add_zero] at q n
          have A:(_root_.Go.part f.type U f.offset).run P w= .ok (.int k m) w:=by
           simp[Go.part,isAgg,run_underlying e,M, <-q]
          have C:(_root_.Go.part f.type V f.offset).run P w= .ok (.int k z) w:=by
           simp[Go.part,isAgg,run_underlying e,M, <-n]
          have Q:=eqFields_int d l (o+1) xs ys F E U V R hi G.2 (by simpa using s) J H D
           (λj=>by have:=N (j+1);rw[show o+1+j=o+(j+1) by omega];simpa using this) (λj=>by have:=L (j+1);rw[show o+1+j=o+(j+1) by omega];simpa using this)
          have I:f.name≠ "_" :=(by simpa using G.1);simp only[Op.eqFields,I,ne_eq,not_false_eq_true,if_true,Sem.run_bind,A,C,Result.andThen_ok,run_equalIn_int w d f.type k k2 m z e,Sem.run_ite,Sem.run_pure,Q];cases Y:(m==z)<;>simp[<-a,Y]
       ·cases a
def eq_struct(n:wM (ctx w g h) T a){t:TypeId}{X Y:Operand}{xs ys:List AV}{l:List (Nat × TypeId)}{b:Bool}(v:ev T X= .ag xs)(q:ev T Y= .ag ys)(c:(zF P t).kind= .struct l)(e:j5 P t=true)(hi:vd P 0 l=true)(p:xs.length=l.length)(u:xc xs ys=some b):
    ∃U V,a.eval X= .agg U/\a.eval Y= .agg V/\(Op.equalIn 10000 t (.agg U) (.agg V)).run P w= .ok b w/\P.eqGuardType P.depth t=false:=by
 have k:=jt n X;have f:=jt n Y;rw[v] at k;rw[q] at f;obtain⟨U,s,k⟩:=k;obtain⟨V,r,f⟩:=f;obtain⟨d,i,o,x,eq⟩:=qS (qW c zh);rw[eq] at c;cases d<;>try (cases c;done)
 rename_i fields;injection c with c;simp only[j5,zi,Bool.not_eq_true'] at e;have m:P.fieldsOf t=fields:=by simp[Program.fieldsOf,o]
 rw[m] at e;refine⟨U,V,s,r,?_,e.1.1⟩;rw[run_equalIn_struct (P:=P) w 9999 t U V (by rw[m];exact o) e.1.2,m];exact eqFields_int (g:=g) (h:=h) 9998 fields.toList 0 xs ys U.toList V.toList U V b (by rw[<-c] at hi;exact hi) e.2 (by rw[p, <-c];simp) u k f (λj=>zh) (λj=>zh)
def eqItems_int(d:Nat){e:TypeId}{k2:IntKind}(b:P.underlying e=some (.int k2)):∀(xs ys:List AV) (o:Nat) (n vs:List Value) (U V:Array Value) (r:Bool),xc xs ys=some r->ARs (ctx w g h) xs n->ARs (ctx w g h) ys vs->(∀j,n[j]? =U[o+j]?)->(∀j,vs[j]? =V[o+j]?)->
    (Op.eqItems (d+1) e 1 U V (List.range' o xs.length)).run P w= .ok r w
 | [],ys,o,n,vs,U,V,r,a,I,H,G,s=>by
   cases ys with
   | nil=>injection a with a;subst a;rfl
   | cons y ys=>cases a
 | x::xs,ys,o,n,vs,U,V,r,a,I,H,G,s=>by
   cases ys with
   | nil=> cases x<;>try (cases a;done)
           rename_i v;cases v<;>cases a
   | cons y ys=>
     cases x<;>try (cases a;done)
     rename_i x;cases x<;>try (cases a;done)
     rename_i k m;cases y<;>try (cases a;done)
     rename_i y;cases y<;>try (cases a;done)
     rename_i k' p;simp only[xc] at a;split at a
     ·rename_i L;subst L;cases E:xc xs ys with
      | none=>rw[E] at a;cases a
      | some K=>
        rw[E] at a;injection a with a;obtain⟨u,C,F,c,D⟩:=I;obtain⟨v,B,t,f,A⟩:=H;have c:u= .int k m:=c;have f:v= .int k p:=f;subst c f F t;have l:=G 0;have i:=s 0;simp only[List.getElem?_cons_zero,Nat.add_zero] at l i
        have q:(_root_.Go.part e U (o*1)).run P w= .ok (.int k m) w:=by
         simp[Go.part,isAgg,run_underlying b, <-l]
        have z:(_root_.Go.part e V (o*1)).run P w= .ok (.int k p) w:=by
         simp[Go.part,isAgg,run_underlying b, <-i]
        have J:=eqItems_int d b xs ys (o+1) C B U V K E D A
         (λj=>by have:=G (j+1);rw[show o+1+j=o+(j+1) by omega];simpa using this) (λj=>by have:=s (j+1);rw[show o+1+j=o+(j+1) by omega];simpa using this)
        rw[List.length_cons,List.range'_succ];simp only[Op.eqItems,Sem.run_bind,q,z,Result.andThen_ok,run_equalIn_int w d e k k2 m p b,Sem.run_ite,Sem.run_pure,J];cases M:(m==p)<;>simp[<-a,M]
     ·cases a
def eq_arr(v:wM (ctx w g h) T a){t e:TypeId}{n:Nat}{X Y:Operand}{xs ys:List AV}{b:Bool}(I:ev T X= .ag xs)(C:ev T Y= .ag ys)(p:(zF P t).kind= .arr n e)(y:j5 P t=true)(hi:vda P e=true)(z:xs.length=n)(A:xc xs ys=some b):
    ∃U V,a.eval X= .agg U/\a.eval Y= .agg V/\(Op.equalIn 10000 t (.agg U) (.agg V)).run P w= .ok b w/\P.eqGuardType P.depth t=false:=by
 have q:=jt v X;have o:=jt v Y;rw[I] at q;rw[C] at o;obtain⟨U,E,q⟩:=q;obtain⟨V,D,o⟩:=o;obtain⟨d,i,G,H,eq⟩:=qS (qW p zh);rw[eq] at p;cases d<;>try (cases p;done)
 rename_i n' x;injection p with hk1 hk2;subst hk1;subst hk2;simp only[j5,zi,Bool.not_eq_true'] at y;simp only[vda,zi,beq_iff_eq] at hi;obtain⟨l,c⟩:=hi;cases f:(zF P x).kind<;>rw[f] at l<;>try (cases l;done)
 rename_i k;obtain⟨B,F,u,m,r⟩:=qS (qW f zh);rw[r] at f c;cases B<;>try (cases f;done)
 have s:P.cellsOf x=1:=by
  have c:F.size=1:=c;simp[Program.cellsOf,m,c]
 refine⟨U,V,E,D,?_,y.1.1⟩;rw[run_equalIn_array (P:=P) w 9999 U V G m,s,List.range_eq_range', <-z];exact eqItems_int (g:=g) (h:=h) 9998 u xs ys 0 U.toList V.toList U V b A q o (λj=>zh) (λj=>zh)
def did_bin(v:HOk B w g h)(hB:B<=w.heap.size)(u:wM (ctx w g h) T a){op:BinOp}{t:TypeId}{X Y:Operand}(c:qEa P op t (ev T X) (ev T Y)=some x):
    DidV P (do eqGuard op t X Y (a.eval X) (a.eval Y);binOp op t (a.eval X) (a.eval Y)) B w g h x h:=by
 unfold qEa at c;split at c
 ·rename_i k m k' n r s;have l:=wl u r;have j:=wl u s;have G:(eqGuard op t X Y (.int k m) (.int k' n)).run P w= .ok () w:=by cases op<;>simp[eqGuard]
  split at c
  ·split at c
   ·rename_i I;have H:¬ n<0:=zb;rw[l,j]
    cases op<;>simp only[Wy] at c<;>first
     | cases c;done
     | (injection c with c
        subst c;refine jk v hB ?_ rfl;simp[G,binOp,Op.shift,H]
        done)
   ·cases c
  ·rename_i K;split at c
   ·rename_i f;subst f;rw[l,j]
    cases op<;>simp only[Wz] at c<;>first
     | cases c;done
     | (injection c with c;subst c
        refine jk v hB ?_ rfl;simp[G,binOp,Op.intArith,Op.intCmp,Op.intDiv,Op.intBits]
        done)
     | (split at c
        ·cases c
        ·rename_i I;injection c with c;subst c;refine jk v hB ?_ rfl;simp[G,binOp,Op.intDiv,I])
   ·cases c
 ·rename_i p q r s;have l:=wl u r;have j:=wl u s;split at c
  ·rename_i f;injection c with c;subst c;obtain⟨d,i,A,C,eq⟩:=qS (qW f zh);rw[eq] at f;cases d<;>try (cases f;done)
   rw[l,j];refine jk v hB ?_ rfl;simp[eqGuard,binOp,Op.equal,Op.maxDepth,run_equalIn_bool' w 9999 t p q A]
  ·rename_i f;injection c with c;subst c;obtain⟨d,i,A,C,eq⟩:=qS (qW f zh);rw[eq] at f;cases d<;>try (cases f;done)
   rw[l,j];refine jk v hB ?_ rfl;simp[eqGuard,binOp,Op.equal,Op.maxDepth,run_equalIn_bool' w 9999 t p q A]
  ·cases c
 ·rename_i xs ys r s;split at c
  ·rename_i J f;split at c
   ·rename_i o;simp only[zi,beq_iff_eq] at o;cases y:xc xs ys with
    | none=>rw[y] at c;cases c
    | some b=>
      rw[y] at c;injection c with c;subst c;obtain⟨U,V,l,j,D,F⟩:=eq_struct u r s f o.1.1 o.1.2 o.2 y;rw[l,j];refine jk v hB ?_ rfl;simp only[Sem.run_bind,run_eqGuard_agg w _ t X Y U V F,Result.andThen_ok,run_eql_struct,D]
   ·cases c
  ·rename_i J f;split at c
   ·rename_i o;simp only[zi,beq_iff_eq] at o;cases y:xc xs ys with
    | none=>rw[y] at c;cases c
    | some b=>
      rw[y] at c;injection c with c;subst c;obtain⟨U,V,l,j,D,F⟩:=eq_struct u r s f o.1.1 o.1.2 o.2 y;rw[l,j];refine jk v hB ?_ rfl;simp only[Sem.run_bind,run_eqGuard_agg w _ t X Y U V F,Result.andThen_ok,run_neq_struct,D]
   ·cases c
  ·rename_i n e f;split at c
   ·rename_i o;simp only[zi,beq_iff_eq] at o;cases y:xc xs ys with
    | none=>rw[y] at c;cases c
    | some b=>
      rw[y] at c;injection c with c;subst c;obtain⟨U,V,l,j,D,F⟩:=eq_arr u r s f o.1.1 o.1.2 o.2 y;rw[l,j];refine jk v hB ?_ rfl;simp only[Sem.run_bind,run_eqGuard_agg w _ t X Y U V F,Result.andThen_ok,run_eql_struct,D]
   ·cases c
  ·cases c
 ·rename_i r s;have l:=wl u r;have j:=wl u s;split at c
  all_goals first|cases c;done|skip
  all_goals
   rename_i f;injection c with c;subst c;obtain⟨d,i,A,C,eq⟩:=qS (qW f zh);rw[eq] at f;cases d<;>try (cases f;done)
   rw[l,j];refine jk v hB ?_ rfl;have z:P.underlying t=some (.pointer (P.pointee t)):=(by simp[Program.pointee,A]);simp[eqGuard,run_eql_pointer_nil w t _ z,run_neq_pointer_nil w t _ z]
 ·rename_i id off r s;have E:=jt u X;rw[r] at E;obtain⟨_,l⟩:=E;have j:=wl u s;split at c
  all_goals first|cases c;done|skip
  all_goals
   rename_i f;injection c with c;subst c;obtain⟨d,i,A,C,eq⟩:=qS (qW f zh);rw[eq] at f;cases d<;>try (cases f;done)
   rw[l,j];refine jk v hB ?_ rfl;have z:P.underlying t=some (.pointer (P.pointee t)):=(by simp[Program.pointee,A]);simp[eqGuard,run_eql_pointer_nil w t _ z,run_neq_pointer_nil w t _ z]
 ·rename_i p q r s;have l:=wl u r;have j:=wl u s;rw[l,j]
  cases op<;>simp only at c<;>first
   | cases c;done
   | (injection c with c
      subst c;refine jk v hB ?_ rfl;simp[eqGuard,binOp,Op.stringOp])
 ·cases c
def Vo(l:HOk B w g h){y:AV}{u:Value}(a:ZD h y=true)(c:AR (ctx w g h) y u):∃A n k,u= .slice (some A) n k:=by
 unfold ZD at a;rw[Bool.or_eq_true] at a;rcases a with a|a
 ·unfold vea at a;split at a
  ·obtain⟨A,k,e⟩:=c;exact⟨A,0,k,e⟩
  ·cases a
 ·unfold Kz at a;split at a
  ·rename_i r rs e f o;simp only[decide_eq_true_eq] at a;obtain⟨A,k,m,s,d,_⟩:=rows_ok l _ c f;have b:=d e o;have q:=b.len r zh;obtain⟨i,p,j,_⟩:=b.cell 0 0 r (nth r 0) rfl (wA zb);subst j;exact⟨i,_,_,m⟩
  ·cases a
def did_nil(r:HOk B w g h)(hB:B<=w.heap.size)(C:wM (ctx w g h) T a){op:BinOp}{t:TypeId}{X Y:Operand}(q:Zb Y=true)(j:Vj P h op t (ev T X)=some x):
    DidV P (do eqGuard op t X Y (a.eval X) (a.eval Y);binOp op t (a.eval X) (a.eval Y)) B w g h x h:=by
 have y:∃n c,a.eval Y= .slice none n c:=by
  unfold Zb at q;split at q
  ·exact⟨_,_,rfl⟩
  ·cases q
 obtain⟨n,c,z⟩:=y;rw[z];unfold Vj at j;split at j
 ·rename_i e s;obtain⟨d,i,v,E,eq⟩:=qS (qW s zh);rw[eq] at s;cases d<;>try (cases s;done)
  have key:∀A m k b,a.eval X= .slice A m k->A.isNone=b->Jt op b=some x->DidV P (do eqGuard op t X Y (a.eval X) (.slice none n c);binOp op t (a.eval X) (.slice none n c)) B w g h x h:=λA m k b o u f=>by
   rw[o]
   cases op<;>simp only[Jt] at f<;>first
    | cases f;done
    | skip
   ·injection f with f;subst f;refine jk r hB ?_ rfl;simp[eqGuard,Lib.run_eql_slice_nil w t _ A m k n c v,u]
   ·injection f with f;subst f;refine jk r hB ?_ rfl;simp[eqGuard,run_neq_slice_nil_any w t _ A m k n c v,u]
  have l:=jt C X;split at j
  ·rename_i p;unfold Qn at p;split at p
   ·rename_i m k o;rw[o] at l;have l:a.eval X= .slice none m k:=l;exact key none m k true l rfl j
   ·cases p
  ·split at j
   ·rename_i D;obtain⟨A,m,k,o⟩:=Vo r D l;exact key (some A) m k false o rfl j
   ·cases j
 ·cases j
end
section
variable {B:Nat} {w:World} {g:Gh} {h h':List Ob} {P:Program} {x:AV} {T:Nat->AV} {a:Act}
def ownPart_ok(E:HOk B w g h){y:AV}{u:Value}{id st i n:Nat}(a:xr h y=some (id,st,i,n))(C:AR (ctx w g h) y u):
    ∃ty e xs A k,h[id]? =some (.row ty e xs st)/\i+n<=xs.length/\u= .slice A n k/\(0<n->∃l m j,g.cur id= .slice (some l) m j/\A=some (l.add (i*e))):=by
 unfold xr at a;split at a
 ·rename_i d st';split at a
  ·rename_i ty e xs s f;split at a
   ·rename_i r;injection a with a;injection a with h1 a;injection a with h2 a;injection a with h3 h4;subst h1 h2 h3 h4;subst r;have t:=ZB C f;obtain⟨O,N,cells,z,P⟩:=E.ok _ _ f;obtain⟨A,j,c,M⟩:=vc z;have c:g.cur d= .slice A xs.length j:=c;refine⟨ty,e,xs,A,j,f,zb,t.trans c,λo=>?_⟩;rcases z.2 with⟨b,p⟩|⟨L,cap,cur,b,_⟩
    ·rw[p] at o;simp at o
    ·have b:g.cur d=_:=b;rw[b] at c;injection c with c e3 e4;exact⟨_,_,_,b,by rw[<-c,Nat.zero_mul];rfl⟩
   ·cases a
  ·cases a
 ·rename_i d st' K I J;split at a
  ·rename_i ty e xs s f;split at a
   ·rename_i r;obtain⟨q,x,v⟩:=r;injection a with a;injection a with h1 a;injection a with h2 a;injection a with h3 h4;subst h1 h2 h3 h4;subst q x;obtain⟨A,m,j,H,k,F,R,Q,G,D,_⟩:=C;have t:=ZB F f;refine⟨ty,e,xs,H,k,f,v,G,λo=>?_⟩;obtain⟨l,b,p⟩:=D o;subst b;exact⟨l,m,j,t.symm,p⟩
   ·cases a
  ·cases a
 ·cases a
def jA{α:Type}{l:List α}{i:Nat}{a:α}(h:l[i]? =some a):l.set i a=l:=by
 apply qz;intro j;by_cases b:i=j
 ·subst b;rw[zr (zj.1 h).1,h]
 ·rw[zf b]
def YQ:∀(p q r s:List AV),q.length=s.length->lay (p++q++r) p.length s=some (p++s++r)
 | [],q,r,s,c=>by
   have key:∀(s q:List AV),q.length=s.length->lay (q++r) 0 s=some (s++r):=by
    intro s
    induction s with
    | nil=>
      intro q b;have:q=[]:=zy (by simpa using b);subst this;simp only[List.nil_append];cases r<;>rfl
    | cons y s d=>
      intro q b;cases q with
      | nil=>cases b
      | cons z q=>
        simp only[List.cons_append,lay];rw[d q (by simpa using b)];rfl
   simpa using key s q c
 | a::p,q,r,s,c=>by
   have:=YQ p q r s c;simp only[List.cons_append,List.length_cons,lay];rw[this];rfl
def lay_rows{e:Nat}{xs ys:List (List AV)}{i:Nat}(d:∀x∈xs,x.length=e)(g:∀y∈ys,y.length=e)(hi:i+ys.length<=xs.length):
    lay xs.flatten (i*e) ys.flatten=some (xf xs i ys).flatten/\(∀x∈xf xs i ys,x.length=e)/\(xf xs i ys).length=xs.length:=by
 have j:xs=xs.take i++(xs.drop i).take ys.length++xs.drop (i+ys.length):=by
  rw[zq, <-List.drop_drop,qc,qc]
 have a:∀x∈xs.take i,x.length=e:=λx h=>d x (List.mem_of_mem_take h);have b:∀x∈(xs.drop i).take ys.length,x.length=e:=λx h=>d x (List.mem_of_mem_drop (List.mem_of_mem_take h));have c:(xs.take i).flatten.length=i*e:=by rw[xQ a];congr 1;simp;omega
 have f:((xs.drop i).take ys.length).flatten.length=ys.flatten.length:=by rw[xQ b,xQ g];congr 1;simp;omega
 refine⟨?_,λx h=>?_,by simp[xf];omega⟩
 ·have:=YQ (xs.take i).flatten ((xs.drop i).take ys.length).flatten (xs.drop (i+ys.length)).flatten ys.flatten f;rw[c] at this
  conv=>lhs;rw[j]
  simp only[List.flatten_append,xf];exact this
 ·unfold xf at h;rcases zV.1 h with h|h
  ·rcases zV.1 h with h|h
   ·exact a x h
   ·exact g x h
  ·exact d x (List.mem_of_mem_drop h)
def part_put(f:HOk B w g h)(hB:B<=w.heap.size){id st i n ty e:Nat}{xs ys:List (List AV)}(d:h[id]? =some (.row ty e xs st))(b:i+ys.length<=xs.length)(l:∀y∈ys,y.length=e){c:Addr}{m p:Nat}(q:g.cur id= .slice (some c) m p)
    {vs:List Value} (a:ARs (ctx w g h) ys.flatten vs) (o:∀v∈vs,v.oneCell'=true):
    ∃w' g',(storeCells (c.add (i*e)) vs).run P w= .ok () w'/\Good B w g h w' g' (h.set id (.row ty e (xf xs i ys) st)):=by
 obtain⟨r,j,cells,s,t⟩:=f.ok _ _ d;obtain⟨l1,l2,k⟩:=lay_rows j l b;exact row_put f hB d q a o l1 l2 k
def did_clear(D:HOk B w g h)(hB:B<=w.heap.size){t ty e:TypeId}{y:AV}{u:Value}(U:AR (ctx w g h) y u)(f:(zF P t).kind= .slice e){id st i n:Nat}(L:xr h y=some (id,st,i,n)){z:List Value}(s:(zF P e).zero=some z)
    (X:(zF P e).ok=true) (N:z.length=(zF P e).sz) (b:xL h id i e (zF P e).sz (List.replicate n (z.map .v))=some h'):
    ∃w' g',(Builtin.clear_ #[t] ty #[u]).run P w= .ok (.tuple #[]) w'/\Good B w g h w' g' h':=by
 obtain⟨d,it,l,Z,eq⟩:=qS (qW f zh);rw[eq] at f;cases d<;>try (cases f;done)
 injection f with f;subst f;rename_i e;obtain⟨β,e',xs,A,k,p1,p2,F,I⟩:=ownPart_ok D L U;unfold xL at b;rw[p1] at b;simp only at b;split at b
 ·rename_i hc;obtain⟨S,V,K⟩:=hc;injection b with b;subst b;subst S;by_cases J:n=0
  ·subst J;have:xf xs i (List.replicate 0 (z.map AV.v))=xs:=(by simp[xf]);rw[this,jA p1];refine⟨w,g,?_,Good.refl D hB⟩;subst F;cases A<;>simp[Builtin.clear_,run_underlying l]
  ·obtain⟨ad,m,cp,W,Q⟩:=I zb;obtain⟨d',Y,T,G,p⟩:=qS X;cases c:Y.zero with
   | none=>rw[p] at s;simp[c] at s
   | some E=>
     have x:E.cells.toList=z:=(by rw[p] at s;simpa [c] using s);have a:∀y∈List.replicate n (z.map AV.v),y.length=e':=λy O=>by rw[List.eq_of_mem_replicate O];simp[N,V]
     have C:(List.replicate n (z.map AV.v)).flatten=(List.replicate n z).flatten.map AV.v:=by
      clear a K p2 I F L
      induction n with
      | zero=>simp
      | succ m ih=>simp[List.replicate_succ]
     have j:∀v∈(List.replicate n z).flatten,v.oneCell'=true:=λv R=>by
      obtain⟨r,H,o⟩:=List.mem_flatten.1 R;rw[List.eq_of_mem_replicate H] at o;have:=zY.1 K (z.map AV.v) (by rw[List.mem_replicate];exact⟨J,rfl⟩);simp only[zi] at this;have:=zY.1 this.2 (.v v) (zQ.2 ⟨v,o,rfl⟩);exact this
     obtain⟨w',g',s1,M⟩:=part_put (P:=P) (n:=n) D hB p1 (i:=i) (ys:=List.replicate n (z.map AV.v)) (by simpa using p2) a W (vs:=(List.replicate n z).flatten) (by rw[C];exact QL _) j;refine⟨w',g',?_,M⟩;subst F;subst Q
     have q:(Builtin.zeroCells E.cells n).toList=(List.replicate n z).flatten:=by
      have:=Zu E.cells n;rw[x] at this;exact this
     obtain⟨n,rfl⟩:∃m,n=m+1:=⟨n - 1,zb⟩;simp[Builtin.clear_,run_underlying l,Ju G c,q,s1]
 ·cases b
def XK{sz n:Nat}{A:Option Addr}{m k:Nat}{vs:List Value}(b:vs.length=n*sz)(d:A=none->n=0)(c:∀a,A=some a->∀j u,vs[j]? =some u->w.cell? (a.add j)=some u):(Builtin.firstCells sz n (.slice A m k)).run P w= .ok vs.toArray w:=by
 cases A with
 | none=>
   have:vs=[]:=zy (by rw[b,d rfl,Nat.zero_mul]);subst this;simp[Builtin.firstCells]
 | some a=>
   have:=run_loadCells_list (P:=P) w a vs (c a rfl);rw[b] at this;simpa [Builtin.firstCells] using this
def did_copy(K:HOk B w g h)(hB:B<=w.heap.size){t ty e:TypeId}{y s:AV}{u v:Value}(hu:AR (ctx w g h) y u)(hv:AR (ctx w g h) s v)(o:(zF P t).kind= .slice e){id st i n:Nat}(hp:xr h y=some (id,st,i,n)){ys:List (List AV)}(C:zI h s=some ys)
    (ho:(zF P e).ok=true) (h0:0<(zF P e).sz) (p:xL h id i e (zF P e).sz (ys.take n)=some h'):
    ∃w' g',(Builtin.copy_ #[t,t] ty #[u,v]).run P w= .ok (.int .i64 ((ys.take n).length:Nat)) w'/\Good B w g h w' g' h':=by
 obtain⟨d,it,G,υ,eq⟩:=qS (qW o zh);rw[eq] at o;cases d<;>try (cases o;done)
 injection o with o;subst o;rename_i e;obtain⟨U,e',xs,A,k,p1,p2,Z,p4⟩:=ownPart_ok K hp hu;obtain⟨A2,k2,r1,r2,r3,r4⟩:=rows_ok K _ hv C;unfold xL at p;rw[p1] at p;simp only at p;split at p
 ·rename_i hc;obtain⟨c1,c2,c3⟩:=hc;injection p with p;subst p;subst c1;obtain⟨d',N,ξ,I,T⟩:=qS ho;have X:(zF P U).sz=N.size:=by rw[T]
  have c:(ys.take n).length=min ys.length n:=by rw[zT,Nat.min_comm]
  have f:∀r∈ys.take n,r.length=e'/\r.all AV.one=true:=λr C=>by
   have:=zY.1 c3 r C;simp only[zi,beq_iff_eq] at this;exact⟨by rw[c2];exact this.1,this.2⟩
  by_cases E:(ys.take n).length=0
  ·have R:ys.take n=[]:=zy E;have:xf xs i (ys.take n)=xs:=(by rw[R];simp[xf]);rw[this,jA p1];refine⟨w,g,?_,Good.refl K hB⟩;subst Z;subst r1;have M:Nat.min ys.length n=0:=(by rw[<-E,c]);have O:=XK (P:=P) (w:=w) (sz:=N.size) (n:=0) (A:=A2) (m:=ys.length) (k:=k2) (vs:=[]) zh (λ_=>rfl) (λ_ _ _ _ h=>by simp at h);rw[E];cases A<;>simp[Builtin.copy_,run_underlying G,Builtin.lenOf,sizeOf,typeInfo,I,M,O,goInt,storeCells]
  ·have Q:0<n:=by
    rcases Nat.eq_zero_or_pos n with h|h
    ·subst h;simp at E
    ·exact h
   obtain⟨ad,m,cp,q1,q2⟩:=p4 Q;subst q2;have x:ys≠[]:=λh=>(by subst h;simp at E);cases H:eOf h s with
   | none=>exact absurd (r4 H) x
   | some L=>
     have l:=r3 L H;obtain⟨Y,F⟩:∃r,r∈ys.take n:=List.exists_mem_of_ne_nil _ (λh=>E (by rw[h];rfl));have V:L=e':=(by rw[<-l.len Y (List.mem_of_mem_take F)];exact(f Y F).1);subst V
     obtain⟨b,S⟩:∃b,A2=some b:=by
      cases z:ys with
      | nil=>exact absurd z x
      | cons q qs=>
        have hq:=l.len q (by rw[z];simp);obtain⟨b,u',z1,_⟩:=l.cell 0 0 q (nth q 0) (by rw[z];rfl) (wA zb);exact⟨b,z1⟩
     subst S
     have J:RowsAt w (ctx w g h) L (ys.take n) (some b):=⟨λr C=>(f r C).1,λj k r a D o=>by
      rw[jZ] at D;split at D
      ·exact l.cell j k r a D o
      ·cases D⟩
     obtain⟨news,n1,n2,n3,n4⟩:=rows_news J λr C=>(f r C).2;obtain⟨w',g',s1,s2⟩:=part_put (P:=P) (n:=n) K hB p1 (i:=i) (ys:=ys.take n) (by rw[c];omega) (λy hy=>(f y hy).1) q1 n4 n3;refine⟨w',g',?_,s2⟩;subst Z;subst r1;have M:Nat.min ys.length n=(ys.take n).length:=c.symm;have W:L=N.size:=(by rw[c2,X]);have O:=XK (P:=P) (w:=w) (sz:=N.size) (n:=(ys.take n).length) (A:=some b) (m:=ys.length) (k:=k2) (vs:=news) (by rw[n1,W]) (λh=>by cases h) (λad h j u D=>by injection h with h;subst h;exact n2 j u D);obtain⟨q,hq⟩:∃q,(ys.take n).length=q:=⟨_,rfl⟩;rw[hq] at M O⊢;simp[Builtin.copy_,run_underlying G,Builtin.lenOf,sizeOf,typeInfo,I,M,O,s1,goInt]
 ·cases p
def did_slice(G:HOk B w g h)(hB:B<=w.heap.size)(D:wM (ctx w g h) T a){t e:TypeId}{X:Operand}{lo hi:Option Operand}{xs:List (List AV)}{l m:Int}(o:(zF P t).kind= .slice e)(U:zI h (ev T X)=some xs)(f:wC T 0 lo=some l)(i:wC T xs.length hi=some m)
    (O:(zF P e).ok=true) (h0:0<=l) (h1:l<=m) (I:m<=xs.length) (u:l=m∨(0<(zF P e).sz/\eOf h (ev T X)=some (zF P e).sz)):DidV P (Instr.sliceAt t (a.eval X) (lo.map a.eval) (hi.map a.eval) none) B w g h (.vw (ev T X) (zF P e).sz l.toNat (m.toNat - l.toNat)) h:=by
 obtain⟨d,it,s,S,eq⟩:=qS (qW o zh);rw[eq] at o;cases d<;>try (cases o;done)
 injection o with o;subst o;rename_i e;obtain⟨Z,R,N,E,z⟩:=qS O;have J:=jt D X;obtain⟨A,k,H,r2,W,r4⟩:=rows_ok G _ J U
 have b:(match lo.map a.eval with|some v=>Instr.sliceBound v m.toNat .sliceB|none=>pure 0:Sem Nat).run P w= .ok l.toNat w:=by
  cases lo with
  | none=>injection f with f;subst f;rfl
  | some x=>
    simp only[wC] at f;split at f
    ·rename_i kk n C;injection f with f;subst f;have:=wl D C;simp only[Option.map_some,this,Instr.sliceBound,asIntOf,Sem.run_bind,Sem.run_pure,Result.andThen_ok,if_pos (show 0<=n/\n<=(m.toNat:Int) by omega)]
    ·cases f
 have c:(match hi.map a.eval with|some v=>Instr.sliceBound v k .sliceAcap|none=>pure xs.length:Sem Nat).run P w= .ok m.toNat w:=by
  cases hi with
  | none=>injection i with i;subst i;simp
  | some x=>
    simp only[wC] at i;split at i
    ·rename_i kk n C;injection i with i;subst i;have:=wl D C;simp only[Option.map_some,this,Instr.sliceBound,asIntOf,Sem.run_bind,Sem.run_pure,Result.andThen_ok,if_pos (show 0<=n/\n<=(k:Int) by omega)]
    ·cases i
 refine jk G hB (v:= .slice (if k=l.toNat then A else A.map (·.add (l.toNat*R.size))) (m.toNat - l.toNat) (k - l.toNat)) ?_ ?_
 ·have V:(Instr.sliceBounds true xs.length k (lo.map a.eval) (hi.map a.eval) none).run P w= .ok (l.toNat,m.toNat,k) w:=by
   unfold Instr.sliceBounds;cases lo with
   | none=>cases hi with
     | none=>
       injection b with b;injection c with c;simp[b,c]
     | some x=>
       injection b with b;simp only[Option.map_some] at c;simp[b,c]
   | some y=>cases hi with
     | none=>
       injection c with c;simp only[Option.map_some] at b;simp[b,c]
     | some x=>
       simp only[Option.map_some] at b c;simp[b,c]
  simp only[Instr.sliceAt,Sem.run_bind,run_underlying s,Result.andThen_ok,Instr.slice,H];simp only[Sem.run_bind,V,Result.andThen_ok,sizeOf,typeInfo,run_program];simp[E]
 ·refine⟨A,xs.length,k,_,_,by rw[<-H];exact J,zb,zb,rfl,λhn=>?_,λh0=>?_⟩;rotate_left
  ·rw[h0];refine⟨?_,rfl⟩;split
   ·exact .inl rfl
   ·exact .inr zh
  have r:k≠l.toNat:=zb;rw[if_neg r];cases A with
  | some Q=>exact⟨Q,rfl,by rw[z];rfl⟩
  | none=>
    exfalso;rcases u with he|⟨L,F⟩
    ·omega
    ·have p:=W _ F;cases j:xs with
     | nil=>rw[j] at I;simp at I;omega
     | cons q Y=>
       have hq:=p.len q (by rw[j];simp);obtain⟨K,u',M,_⟩:=p.cell 0 0 q (nth q 0) (by rw[j];rfl) (wA zb);cases M
end
section
variable {B:Nat} {w:World} {g:Gh} {h h':List Ob} {P:Program} {x:AV} {T:Nat->AV} {a:Act} {kk:IntKind} {n:Int} {v:AV}
def jF:∀ {es:List (AV × AV)},xC kk es=true↔∀p∈es,p.1= .v (.int kk (xu p))
 | []=>by simp[xC]
 | p::r=>by
   have c:=jF (es:=r);constructor
   ·intro h q a;unfold xC at h;split at h
    ·rename_i heq;cases heq
    ·rename_i k m u d heq;injection heq with b h2;subst b h2;simp only[zi,beq_iff_eq] at h;rcases zK.1 a with rfl|a
     ·simp[xu,h.1]
     ·exact c.1 h.2 q a
    ·cases h
   ·intro h;obtain⟨p1,p2⟩:=p;have h0:p1=_:=h (p1,p2) zh;have b:=c.2 λq a=>h q (by simp[a]);rw[h0];simp[xC,b]
def QN{a b:List (AV × AV)}(d:a.Perm b)(h:xC kk b=true):xC kk a=true:=by
 rw[jF] at h⊢;exact λp c=>h p (d.mem_iff.1 c)
def ZG:∀ {es:List (AV × AV)},xj n es=true↔∃p∈es,xu p=n
 | []=>by simp[xj]
 | p::r=>by simp[xj,ZG (es:=r)]
def ve:∀(es:List (AV × AV)),jK kk n v es=es.map λp=>if xu p=n then(.v (.int kk n),v) else p
 | []=>rfl
 | p::r=>by simp[jK,ve r]
def wD:∀(es:List (AV × AV)),(jy kk n v es).Perm ((.v (.int kk n),v)::es)
 | []=> .refl _
 | p::r=>by
   unfold jy;split
   ·exact .refl _
   ·exact((wD r).cons p).trans (.swap _ _ _)
def QO{n n':Int}{v v':AV}(d:n≠n'):∀(es:List (AV × AV)),jy kk n v (jy kk n' v' es)=jy kk n' v' (jy kk n v es)
 | []=>by
   simp only[jy,xu];by_cases h:n<n'
   ·simp[h,show ¬ n'<n by omega]
   ·simp[h,show n'<n by omega]
 | p::r=>by
   have e:=QO (v:=v) (v':=v') d r;have k1:xu (.v (.int kk n),v)=n:=rfl;have k2:xu (.v (.int kk n'),v')=n':=rfl;by_cases b:n<xu p
   ·by_cases a:n'<xu p
    ·by_cases c:n<n'
     ·simp[jy,b,a,c,k1,k2,show ¬ n'<n by omega]
     ·simp[jy,b,a,c,k1,k2,show n'<n by omega]
    ·have c:n<n':=(by omega);simp[jy,b,a,k1,show ¬ n'<n by omega]
   ·by_cases a:n'<xu p
    ·have c:n'<n:=(by omega);simp[jy,b,a,k2,show ¬ n<n' by omega]
    ·simp[jy,b,a,e]
def xR{c:Ctx}:∀ {l:List (AV × AV)} {es:List MapEntry},MapRel c l es->l.length=es.length
 | [],es,h=>by have h:es=[]:=h;simp[h]
 | p::r,es,⟨e,q,b,_,_,a⟩=>by subst b;simp[xR a]
def xv{c:Ctx}:∀ {l:List (AV × AV)} {es:List MapEntry},MapRel c l es->∀(i:Nat) (p:AV × AV),l[i]? =some p->∃e,es[i]? =some e/\AR c p.1 e.key/\AR c p.2 e.val
 | q::r,es,⟨e,s,b,f,d,g⟩,0,p,a=>by injection a with a;subst a b;exact⟨e,rfl,f,d⟩
 | q::r,es,⟨e,s,b,f,d,g⟩,i+1,p,a=>by
   subst b;exact xv g i p (by simpa using a)
def Qo{c:Ctx}:∀ {l:List (AV × AV)} {es:List MapEntry},l.length=es.length->(∀(i:Nat) (p:AV × AV) (e:MapEntry),l[i]? =some p->es[i]? =some e->AR c p.1 e.key/\AR c p.2 e.val)->MapRel c l es
 | [],[],_,_=>rfl
 | [],_::_,h,_=>by cases h
 | _::_,[],h,_=>by cases h
 | p::l,e::es,d,h=>⟨e,es,rfl,(h 0 p e rfl rfl).1,(h 0 p e rfl rfl).2,Qo (by simpa using d) λi p e b a=>h (i+1) p e (by simpa using b) (by simpa using a)⟩
def ZH{kk':IntKind}:∀(es:List MapEntry) (i:Nat),(∀e∈es,∃m,e.key= .int kk m)->(∀e∈es,e.key≠ .int kk n)/\Instr.findNow (.int kk') (.int kk n) es i=some none∨∃j e,es[j]? =some e/\e.key= .int kk n/\Instr.findNow (.int kk') (.int kk n) es i=some (some (i+j,e.val))
 | [],i,_=> .inl ⟨zh,rfl⟩
 | e::es,i,l=>by
   obtain⟨m,c⟩:=l e zh;by_cases a:n=m
   ·subst a;exact .inr ⟨0,e,rfl,c,by simp[Instr.findNow,c,Instr.sameNow]⟩
   ·have k:Instr.sameNow (.int kk') (.int kk n) e.key=some false:=(by simp[c,Instr.sameNow,a]);rcases ZH (kk':=kk') es (i+1) (λe p=>l e (by simp[p])) with⟨d,g⟩|⟨j,f,d,g,o⟩
    ·refine .inl ⟨λf b=>?_,by simp[Instr.findNow,k,g]⟩;rcases zK.1 b with rfl|b
     ·rw[c];intro h;injection h with _ h;exact a h.symm
     ·exact d f b
    ·exact .inr ⟨j+1,f,by simpa using d,g,by simp[Instr.findNow,k,o];omega⟩
def XL{es:List MapEntry}(c:(es.map (·.key)).Nodup){i j:Nat}{e b:MapEntry}(hi:es[i]? =some e)(f:es[j]? =some b)(g:e.key=b.key):i=j:=by
 have a:(es.map (·.key))[i]? =some e.key:=by simp[hi]
 have d:(es.map (·.key))[j]? =some e.key:=by simp[f,g]
 have l1:=(zj.1 a).1;exact(List.getElem?_inj l1 c).1 (a.trans d.symm)
def Vp{c:Ctx}{l:List (AV × AV)}{es:List MapEntry}(b:MapRel c l es)(h:xC kk l=true):∀e∈es,∃m,e.key= .int kk m:=λe g=>by
 obtain⟨i,hi⟩:=List.mem_iff_getElem?.1 g;have d:i<l.length:=by rw[xR b];exact(zj.1 hi).1
 obtain⟨j,a,f,_⟩:=xv b i _ (zg d);rw[hi] at a;injection a with a;subst a;have:=jF.1 h l[i] (zx d);rw[this] at f;exact⟨_,f⟩
def Jv{z:AV}:∀ {es:List (AV × AV)},(∀p∈es,xu p≠n)->yF n z es=(z,false)
 | [],_=>rfl
 | p::r,h=>by
   have c:=Jv (z:=z) (es:=r) λq a=>h q (by simp[a]);have b:=h p zh;simp[yF,c,b]
def Jw{z:AV}:∀ {es:List (AV × AV)},(∃p∈es,xu p=n)->∃p∈es,xu p=n/\yF n z es=(p.2,true)
 | [],h=>by simp at h
 | p::r,h=>by
   by_cases a:xu p=n
   ·exact⟨p,zh,a,by simp[yF,a]⟩
   ·obtain⟨q,b,c⟩:=h;rcases zK.1 b with rfl|b
    ·exact absurd c a
    ·obtain⟨e,g,f,d⟩:=Jw (z:=z) (es:=r) ⟨q,b,c⟩;exact⟨e,by simp[g],f,by simp[yF,a,d]⟩
def run_lookup_int{c:Ctx}{J K mt:TypeId}{es:Array MapEntry}{k:Nat}{l I:List (AV × AV)}{b:Nat}{kk':IntKind}{z:Value}{C:AV}(X:P.underlying mt=some (.map J K))(D:P.underlying J=some (.int kk'))(T:w.heap[b]? =some (.map es k))(H:I.Perm l)(E:MapRel c I es.toList)(Y:(es.toList.map (·.key)).Nodup)
    (m:xC kk l=true) (O:(zeroValue K).run P w= .ok z w) (B:AR c C z) (ok:Bool):
    ∃u,(Instr.lookup mt (.map (some b)) (.int kk n) ok).run P w= .ok u w/\AR c (if ok then .tup [(yF n C l).1,.v (.bool (yF n C l).2)] else(yF n C l).1) u:=by
 have A:=QN H m;have R:∀ {β:Type} (f:Obj->Sem β),(Sem.getObj b f).run P w=(f (.map es k)).run P w:=λf=>by simp[Sem.run,T]
 have o:∀(r:Option (Nat × Value)) (q:Value) (t:Bool),Instr.findNow (.int kk') (.int kk n) es.toList 0=some r->(match r with|some (_,v)=>(pure (v,true):Sem (Value × Bool))|none=>do pure (<-zeroValue K,false)).run P w= .ok (q,t) w->
   (Instr.lookup mt (.map (some b)) (.int kk n) ok).run P w= .ok (if ok then .tuple #[q,.bool t] else q) w:=λr q t Z s=>by
  have M:∀d,(Instr.checkKey es.isEmpty (d+1) J (.int kk n)).run P w= .ok () w:=λd=>by simp[Instr.checkKey,run_underlying D]
  have U:(getObj b).run P w= .ok (.map es k) w:=by simp[getObj,Sem.run,T]
  simp only[Instr.lookup,Sem.run_bind,run_underlying X,Result.andThen_ok,U,Sem.run_pure,M,Instr.findKey,run_underlying D,Z];cases r with
  | some p=>obtain⟨i,v⟩:=p;simp only[Sem.run_pure] at s ⊢;injection s with s _;injection s with h x;subst h x;cases ok<;>simp
  | none=>simp only[Sem.run_bind,O,Result.andThen_ok,Sem.run_pure] at s ⊢;injection s with s _;injection s with h x;subst h x;cases ok<;>simp
 rcases ZH (kk':=kk') es.toList 0 (Vp E A) (n:=n) with⟨h,x⟩|⟨j,e,h,x,V⟩
 ·have L:∀p∈l,xu p≠n:=λp y e=>by
   obtain⟨i,hi⟩:=List.mem_iff_getElem?.1 (H.mem_iff.2 y);obtain⟨G,g,a,_⟩:=xv E i p hi;have:=jF.1 m p y;rw[this,e] at a;exact h G (ja g) a
  refine⟨_,o none z false x (by simp[O]),?_⟩;rw[Jv L];cases ok
  ·exact B
  ·exact⟨_,rfl,_,_,rfl,B,_,_,rfl,rfl,rfl⟩
 ·have F:j<I.length:=by rw[xR E];exact(zj.1 h).1
  have hex:∃p∈l,xu p=n:=by
   obtain⟨G,g,a,_⟩:=xv E j _ (zg F);rw[h] at g;injection g with g;subst g;have Q:=H.mem_iff.1 (zx F);have:=jF.1 m _ Q;rw[this] at a;have a:e.key= .int kk _:=a;rw[x] at a;injection a with _ a;exact⟨_,Q,a.symm⟩
  obtain⟨p,p1,p2,W⟩:=Jw (z:=C) hex;obtain⟨i,hi⟩:=List.mem_iff_getElem?.1 (H.mem_iff.2 p1);obtain⟨G,g,a,S⟩:=xv E i p hi;have:=jF.1 m p p1;rw[this,p2] at a;have a:G.key= .int kk n:=a;have N:=XL Y g h (a.trans x.symm);subst N;rw[h] at g;injection g with g;subst g;refine⟨_,o (some (0+i,e.val)) e.val true V zh,?_⟩;rw[W];cases ok
  ·exact S
  ·exact⟨_,rfl,_,_,rfl,S,_,_,rfl,rfl,rfl⟩
def did_insert(T:HOk B w g h)(hB:B<=w.heap.size){U et mt:TypeId}{id:Nat}{l l2:List (AV × AV)}{kk':IntKind}{u:Value}(hu:P.underlying mt=some (.map U et))(F:P.underlying U=some (.int kk'))(X:h[id]? =some (.mapo l))(hv:AR (ctx w g h) v u)(x:yG kk n v l=some l2):
    ∃w',(Instr.mapUpdate mt (.map (some (g.β id))) (.int kk n) u).run P w= .ok () w'/\Good B w g h w' g (h.set id (.mapo l2)):=by
 obtain⟨h1,es,k,H,Q,s,y,W⟩:=T.ok id _ X;have Q:w.heap[g.β id]? =some (.map es k):=Q;unfold yG at x;split at x
 case isFalse=>cases x
 rename_i E;injection x with x;have C:=QN s E;have K:∀d,(Instr.checkKey false (d+1) U (.int kk n)).run P w= .ok () w:=λd=>by simp[Instr.checkKey,run_underlying F]
 have hg:(getObj (g.β id)).run P w= .ok (.map es k) w:=by simp[getObj,Sem.run,Q]
 have A:∀o,(setObj (g.β id) o).run P w= .ok () { w with heap:=w.heap.setIfInBounds (g.β id) o }:=λo=>by simp[setObj,Sem.run,Q]
 rcases ZH (kk':=kk') es.toList 0 (Vp y C) (n:=n) with⟨D,G⟩|⟨j,e,D,G,f3⟩
 ·have V:xj n l=false:=by
   rw[Bool.eq_false_iff];intro hc;obtain⟨p,I,e⟩:=ZG.1 hc;obtain⟨i,hi⟩:=List.mem_iff_getElem?.1 (s.mem_iff.2 I);obtain⟨R,r,f,_⟩:=xv y i p hi;have:=jF.1 E p I;rw[this,e] at f;exact D R (ja r) f
  rw[V] at x;simp only[Bool.false_eq_true,if_false] at x;subst x;refine⟨_,?_,turn_map T hB X (es':=es.push { key:= .int kk n,val:=u,born:=k }) (k':=k+1) (l2:=H++[(.v (.int kk n),v)]) ?_ ?_ ?_⟩
  ·simp only[Instr.mapUpdate,Sem.run_bind,run_underlying hu,Result.andThen_ok,hg,K,Instr.findKey,run_underlying F,G,Sem.run_pure,A]
  ·refine(List.perm_append_comm).trans (List.Perm.trans ?_ (wD l).symm);exact s.cons _
  ·rw[Array.toList_push];refine Qo (by simp[xR y]) λi p e s m=>?_;by_cases hi:i<H.length
   ·rw[zH hi] at s;rw[zH (by rw[<-xR y];exact hi)] at m;obtain⟨R,r,f,Z⟩:=xv y i p s;rw[m] at r;injection r with r;subst r
    exact⟨f,Z⟩
   ·have hl:=xR y;rw[zM zb] at s m;rw[<-hl] at m
    have h0:i - H.length=0:=by
     have:=(zj.1 s).1;simp at this;omega
    rw[h0] at s m;injection s with s;injection m with m;subst s m;exact⟨rfl,hv⟩
  ·rw[Array.toList_push,zD,List.nodup_append];refine⟨W,zh,λa ha b hb=>?_⟩;simp at hb;obtain⟨e,m,rfl⟩:=zQ.1 ha;rw[hb];exact D e m
 ·have N:j<H.length:=by rw[xR y];exact(zj.1 D).1
  have M:xj n l=true:=by
   rw[ZG];obtain⟨R,r,f,_⟩:=xv y j _ (zg N);rw[D] at r;injection r with r;subst r;have hm:=s.mem_iff.1 (zx N);have:=jF.1 E _ hm;rw[this] at f;have f:e.key= .int kk _:=f;rw[G] at f;injection f with _ f;exact⟨_,hm,f.symm⟩
  rw[M] at x;simp only[if_true] at x;subst x;have J:es[j]? =some e:=by simpa using D
  refine⟨_,?_,turn_map T hB X (es':=es.modify j λe=>{ e with key:= .int kk n,val:=u }) (k':=k) (l2:=jK kk n v H) ?_ ?_ ?_⟩
  ·have α:(Instr.keyThatStays e.key (.int kk n)).run P w= .ok (.int kk n) w:=(by simp[Instr.keyThatStays,G,Instr.sameBits]);rw[Nat.zero_add] at f3;simp only[Instr.mapUpdate,Sem.run_bind,run_underlying hu,Result.andThen_ok,hg,K,Instr.findKey,run_underlying F,f3,Sem.run_pure,J,Option.map_some,Option.getD_some,α,A]
  ·rw[ve,ve];exact s.map _
  ·refine Qo (by simp[ve,xR y]) λi p R c m=>?_;rw[ve,zw] at c;cases z:H[i]? with
   | none=>rw[z] at c;cases c
   | some q=>
     rw[z] at c;injection c with c;obtain⟨e2,r,f,Z⟩:=xv y i q z;have L:=jF.1 C q (ja z);rw[L] at f;have f:e2.key= .int kk (xu q):=f;rw[xK,Array.getElem?_modify] at m;have Y:es[i]? =some e2:=(by simpa using r);rw[Y] at m;by_cases O:xu q=n
     ·rw[O] at f;have t:=XL W r D (f.trans G.symm);subst t;have c:(if xu q=n then((.v (.int kk n),v):AV × AV) else q)=p:=c;rw[if_pos O] at c;subst c;simp only[if_true,Option.map_some] at m;injection m with m;subst m;exact⟨rfl,hv⟩
     ·have t:j≠i:=λS=>by
       subst S;rw[D] at r;injection r with r;subst r;rw[G] at f;injection f with _ f;exact O f.symm
      have c:(if xu q=n then((.v (.int kk n),v):AV × AV) else q)=p:=c;rw[if_neg O] at c;subst c;rw[if_neg t] at m;injection m with m;subst m;exact⟨by rw[L];exact f,Z⟩
  ·have:(es.modify j λe=>{ e with key:= .int kk n,val:=u }).toList.map (·.key)=es.toList.map (·.key):=by
    apply qz;intro i;rw[zw,zw,xK,Array.getElem?_modify,xK];by_cases t:j=i
    ·subst t;rw[J];simp[G]
    ·rw[if_neg t]
   rw[this];exact W
def qFa{c:Ctx}{t:TypeId}{z:AV}(b:YP (zF P t)=some z):∃u,(zeroValue t).run P w= .ok u w/\AR c z u:=by
 unfold YP at b;split at b
 ·rename_i g;cases a:(zF P t).zero with
  | none=>rw[a] at b;cases b
  | some j=>
    rw[a] at b;simp only[Option.bind_some] at b;obtain⟨d,i,k,hi,e⟩:=qS (KA a);rw[e] at a g;cases f:i.zero with
    | none=>rw[f] at a;cases a
    | some v=>
      rw[f] at a g;injection a with a
      have h:v.cells= #[v]:=by
       have g:v.oneCell'=true:=g;cases v<;>first|rfl|cases g
      have a:v.cells.toList=j:=a;rw[h] at a;subst a;injection b with b;subst b;exact⟨v,Ju hi f,rfl⟩
 ·cases b
def Vq{c:Ctx}{t:TypeId}(q:(zF P t).ok=true){g:List AV}{vs:Array Value}(m:ARs c g vs.toList){k:Nat}{x:AV}(a:part g k (zF P t).agg (zF P t).sz=some x):∃u,(_root_.Go.part t vs k).run P w= .ok u w/\AR c x u:=by
 obtain⟨d,i,s,hi,e⟩:=qS q;rw[e] at a
 have f:(isAgg t).run P w= .ok (YN d) w:=by
  simp only[isAgg,Sem.run_bind,run_underlying s,Result.andThen_ok];cases d<;>rfl
 simp only[part] at a;split at a
 ·rename_i l;cases b:cut g k i.size with
  | none=>rw[b] at a;cases a
  | some rs=>
    rw[b] at a;injection a with a;subst a;obtain⟨p,n,y⟩:=Kw m k _ b;refine⟨.agg (vs.extract k (k+i.size)),?_,_,rfl,?_⟩
    ·have h:k+i.size<=vs.size:=(by simpa using n);simp[_root_.Go.part,f,l,sizeOf,typeInfo,hi,h]
    ·simpa [Array.toList_extract,List.extract_eq_take_drop] using p
 ·rename_i l;split at a
  ·rename_i v;injection a with a;subst a;obtain⟨u,o,r⟩:=wX m k v;refine⟨u,?_,r⟩;have j:vs[k]? =some u:=(by simpa using o);simp[_root_.Go.part,f,l,j]
  ·cases a
end
section
variable {B:Nat} {w:World} {g:Gh} {h h':List Ob} {P:Program} {x:AV} {T:Nat->AV} {a:Act}
def XM:∀ {rows:List (List AV)} {l:List UInt8},zsa rows=some l->∃a:List Int,rows=a.map (λn=>[AV.v (.int .u8 n)])/\l=a.map λn=>UInt8.ofNat n.toNat
 | [],l,h=>by
   injection h with h;exact⟨[],rfl,h.symm⟩
 | r::rows,l,h=>by
   unfold zsa at h;split at h
   ·rename_i e;cases e
   ·rename_i n g e;injection e with e1 e2;subst e2;cases b:zsa rows with
    | none=>rw[b] at h;cases h
    | some f=>
      rw[b] at h;injection h with h;obtain⟨a,c,d⟩:=XM b;exact⟨n::a,by rw[e1,c];rfl,by rw[<-h,d];rfl⟩
   ·cases h
def zta(l:List Int):∀s:ByteArray,l.foldl (λr n=>r.push (UInt8.ofNat n.toNat)) s=⟨s.data++(l.map λn=>UInt8.ofNat n.toNat).toArray⟩:=by
 induction l with
 | nil=>intro s;simp
 | cons x l a=>
   intro s;simp only[List.map_cons,List.foldl_cons];rw[a];simp[ByteArray.push]
def run_strA(R:HOk B w g h){s d:TypeId}{rows:List (List AV)}{v:Value}{z:AV}(Q:AR (ctx w g h) (.sl 1 rows) v)(U:(zF P s).ok=true)(E:(zF P d).kind= .str)(c:xLa P s rows=some z):
    ∃u,(convert s d v).run P w= .ok u w/\AR (ctx w g h) z u:=by
 obtain⟨A,k,W,h2,q,_⟩:=rows_ok R (.sl 1 rows) Q rfl;have q:=q 1 rfl;unfold xLa at c;split at c
 ·rename_i e p;split at c
  ·rename_i a;cases K:zsa rows with
   | none=>rw[K] at c;cases c
   | some l=>
     rw[K] at c;injection c with c;subst c;obtain⟨X,i1,I,T,L⟩:=qS U;obtain⟨Z,i2,x,O,H⟩:=qS (qW E zh);obtain⟨S,i3,G,V,r⟩:=qS (qW a zh);rw[L] at p;rw[H] at E;rw[r] at a;cases X<;>try (cases p;done)
     cases Z<;>try (cases E;done)
     cases S<;>try (cases a;done)
     injection p with p;injection a with a;subst p;subst a;obtain⟨f,C,y⟩:=XM K;refine⟨.string ⟨l.toArray⟩,?_,rfl⟩
     have hc:∀m,A=some m->∀j u,(f.map (Value.int .u8))[j]? =some u->w.cell? (m.add j)=some u:=λm Y j u i=>by
      rw[zw] at i;cases F:f[j]? with
      | none=>rw[F] at i;cases i
      | some n=>
        rw[F] at i;injection i with i;subst i;obtain⟨D,N,o,M,J⟩:=q.cell j 0 [.v (.int .u8 n)] (.v (.int .u8 n)) (by rw[C,zw,F];rfl) rfl;rw[Y] at o;injection o with o;subst o;rw[Nat.mul_one,Nat.add_zero] at M;have J:N= .int .u8 n:=J;rw[M,J]
     have t:rows.length=f.length:=(by rw[C,zc]);rw[W,run_convert_bytes_string w s d _ A rows.length k I G x];cases A with
     | none=>
       have h0:f=[]:=by
        cases f with
        | nil=>rfl
        | cons n f=>
          obtain⟨D,N,o,_⟩:=q.cell 0 0 [.v (.int .u8 n)] (.v (.int .u8 n)) (by rw[C];rfl) rfl;cases o
       rw[h0] at t y;rw[t,y];rfl
     | some m=>
       have b:=run_loadCells_list (P:=P) w m (f.map (Value.int .u8)) (hc m rfl);rw[zc] at b;rw[t,run_bytesToString w m f.length k f b,zta,y];simp
  ·cases c
 ·cases c
def YR{c:Ctx}:∀ {aZ:List AV} {y:AV} {vs:List Value} {v:Value},ARs c aZ vs->AR c y v->∀ {r:AV},Vh y aZ=some r->∃u,(vs.foldlM Builtin.max2 v).run P w= .ok u w/\AR c r u
 | [],y,vs,v,e,a,r,h=>by
   have e:vs=[]:=e;subst e;have h:some y=some r:=(by rw[<-h];unfold Vh;rfl);injection h with h;subst h;exact⟨v,rfl,a⟩
 | z::aZ,y,vs,v,⟨u,q,d,b,f⟩,a,r,h=>by
   subst d;unfold Vh at h;split at h
   ·rename_i heq;cases heq
   ·rename_i k p k' n j heq;injection heq with h4 h5;subst h4 h5;have a:v= .int k p:=a;have b:u= .int k' n:=b;subst a b;obtain⟨u,i,g⟩:=YR (y:= .v (.int k (if n>p then n else p))) f rfl h;exact⟨u,by simpa [List.foldlM_cons,Builtin.max2] using i,g⟩
   ·cases h
def YS{c:Ctx}:∀ {aZ:List AV} {y:AV} {vs:List Value} {v:Value},ARs c aZ vs->AR c y v->∀ {r:AV},Vi y aZ=some r->∃u,(vs.foldlM Builtin.min2 v).run P w= .ok u w/\AR c r u
 | [],y,vs,v,e,a,r,h=>by
   have e:vs=[]:=e;subst e;have h:some y=some r:=(by rw[<-h];unfold Vi;rfl);injection h with h;subst h;exact⟨v,rfl,a⟩
 | z::aZ,y,vs,v,⟨u,q,d,b,f⟩,a,r,h=>by
   subst d;unfold Vi at h;split at h
   ·rename_i heq;cases heq
   ·rename_i k p k' n j heq;injection heq with h4 h5;subst h4 h5;have a:v= .int k p:=a;have b:u= .int k' n:=b;subst a b;obtain⟨u,i,g⟩:=YS (y:= .v (.int k (if n<p then n else p))) f rfl h;exact⟨u,by simpa [List.foldlM_cons,Builtin.min2] using i,g⟩
   ·cases h
def did_call(E:HOk B w g h)(hB:B<=w.heap.size)(o:wM (ctx w g h) T a){c:Call}{ty:TypeId}(f:wY P T h c=some (x,h')):
    Did P (do let d<-resolve a.eval c ty;invoke d.target d.args) B w g h x h':=by
 obtain⟨callee,args,argTypes⟩:=c;obtain⟨args⟩:=args;obtain⟨argTypes⟩:=argTypes;unfold wY at f;split at f
 ·rename_i X t l b j;simp only at l b j;subst l b j;split at f
  ·rename_i e s;cases m:zI h (ev T X) with
   | none=>rw[m] at f;cases f
   | some xs=>
     rw[m] at f;injection f with f;injection f with hx1 hx2;subst hx1 hx2;obtain⟨d,i,O,Q,eq⟩:=qS (qW s zh);rw[eq] at s;cases d<;>try (cases s;done)
     obtain⟨A,k,p,C,_,_⟩:=rows_ok E _ (jt o X) m;refine⟨.value (.int .i64 xs.length),_,w,g,?_,.inl rfl,Good.refl E hB,rfl⟩;simp[resolve,invoke,builtin,Builtin.len_,p,run_underlying O,goInt]
  ·cases f
 ·rename_i S X t W l b j;simp only at l b j;subst l b j;split at f
  ·rename_i e s;split at f
   ·rename_i L;subst L;obtain⟨v,w',g',R,M,N⟩:=did_append (ty:=ty) E hB (jt o S) (jt o X) s f;refine⟨.value v,v,w',g',?_,.inl rfl,M,N⟩;simp[resolve,invoke,builtin,R]
   ·cases f
  ·cases f
 ·rename_i X t l b j;simp only at l b j;subst l b j;split at f
  ·rename_i e s;cases G:xr h (ev T X) with
   | none=>rw[G] at f;cases f
   | some q=>
     obtain⟨id,st,i,n⟩:=q;rw[G] at f;simp only[Option.bind_some] at f;cases K:(zF P e).zero with
     | none=>rw[K] at f;cases f
     | some z=>
       rw[K] at f;simp only[Option.bind_some] at f;split at f
       ·rename_i H;cases m:xL h id i e (zF P e).sz (List.replicate n (z.map .v)) with
        | none=>rw[m] at f;cases f
        | some M=>
          rw[m] at f;injection f with f;injection f with hx1 hx2;subst hx1 hx2;obtain⟨w',g',p,C⟩:=did_clear (P:=P) (ty:=ty) E hB (jt o X) s G K H.1 H.2 m;refine⟨.value (.tuple #[]),.tuple #[],w',g',?_,.inl rfl,C,⟨_,rfl,rfl⟩⟩;simp[resolve,invoke,builtin,p]
       ·cases f
  ·cases f
 ·rename_i D X t W l b j;simp only at l b j;subst l b j;split at f
  ·rename_i e s;split at f
   ·rename_i H;obtain⟨L,V,U⟩:=H;subst L;cases G:xr h (ev T D) with
    | none=>rw[G] at f;cases f
    | some q=>
      obtain⟨id,st,i,n⟩:=q;rw[G] at f;simp only[Option.bind_some] at f;cases I:zI h (ev T X) with
      | none=>rw[I] at f;cases f
      | some ys=>
        rw[I] at f;simp only[Option.bind_some] at f;cases m:xL h id i e (zF P e).sz (ys.take n) with
        | none=>rw[m] at f;cases f
        | some M=>
          rw[m] at f;injection f with f;injection f with hx1 hx2;subst hx1 hx2;obtain⟨w',g',p,C⟩:=did_copy (P:=P) (ty:=ty) E hB (jt o D) (jt o X) s G I V U m;refine⟨.value (.int .i64 ((ys.take n).length:Nat)),_,w',g',?_,.inl rfl,C,rfl⟩;simp only[resolve,invoke,builtin];simp[p]
   ·cases f
  ·cases f
 ·rename_i J X r l b;simp only at l b;subst l b;cases F:Vh (ev T X) (evl T r) with
  | none=>rw[F] at f;cases f
  | some y=>
    rw[F] at f;injection f with f;injection f with hx1 hx2;subst hx1 hx2;obtain⟨u,p,C⟩:=YR (P:=P) (w:=w) (ZE o r) (jt o X) F;refine⟨.value u,u,w,g,?_,.inl rfl,Good.refl E hB,C⟩;simp[resolve,invoke,builtin,Builtin.max_,p]
 ·rename_i J X r l b;simp only at l b;subst l b;cases F:Vi (ev T X) (evl T r) with
  | none=>rw[F] at f;cases f
  | some y=>
    rw[F] at f;injection f with f;injection f with hx1 hx2;subst hx1 hx2;obtain⟨u,p,C⟩:=YS (P:=P) (w:=w) (ZE o r) (jt o X) F;refine⟨.value u,u,w,g,?_,.inl rfl,Good.refl E hB,C⟩;simp[resolve,invoke,builtin,Builtin.min_,p]
 ·cases f
def DidV.of{s:Sem Value}{t:Sem Next}(d:DidV P s B w g h x h')(e:t=(do pure (.value (<-s)))):Did P t B w g h x h':=e▸d.did
def jm{s:Sem Next}{v:Value}(b:HOk B w g h)(hB:B<=w.heap.size)(c:s.run P w= .ok (.value v) w)(a:AR (ctx w g h) x v):Did P s B w g h x h:=
 ⟨.value v,v,w,g,c,.inl rfl,Good.refl b hB,a⟩
def KC(G:HOk B w g h)(hB:B<=w.heap.size)(H:wM (ctx w g h) T a)(o:Oper)(C:zO P T h o.op=some (x,h')):Did P (execOp a.eval o) B w g h x h':=by
 obtain⟨dst,op,type,pos,after,guard⟩:=o;simp only at C
 have alloc:(ji P T op).map (λq=>(q.2 h.length,h++[q.1]))=some (x,h')->Did P (execOp a.eval ⟨dst,op,type,pos,after,guard⟩) B w g h x h':=λC=>by
  cases ha:ji P T op with
  | none=>rw[ha] at C;cases C
  | some q=>
    obtain⟨o,mk⟩:=q;rw[ha] at C;injection C with C;injection C with hx1 hx2;subst hx1 hx2;obtain⟨v,w',V,m⟩:=allocA_run G hB H ha dst type pos after guard;obtain⟨g',e2,e3⟩:=m.more G hB;exact⟨.value v,v,w',g',V,.inl rfl,e2,e3⟩
 unfold zO at C;split at C
 case h_1 y=>
  injection C with C;injection C with hx1 hx2;subst hx1 hx2;exact jm G hB (by simp[execOp]) (jt H y)
 case h_2 y=>
  injection C with C;injection C with hx1 hx2;subst hx1 hx2;exact jm G hB (by simp[execOp]) (jt H y)
 case h_3 c y z=>
  split at C
  ·rename_i t K;injection C with C;injection C with hx1 hx2;subst hx1 hx2;have e:=wl H K;cases t
   ·exact jm G hB (v:=a.eval z) (by simp[execOp,e,asBool]) (jt H z)
   ·exact jm G hB (v:=a.eval y) (by simp[execOp,e,asBool]) (jt H y)
  ·cases C
 case h_4 t=>exact alloc C
 case h_5 t y=>exact alloc C
 case h_6 t n ps=>exact alloc C
 case h_7 t l c=>exact alloc C
 case h_8 t r=>exact alloc C
 case h_9 t ps=>
  split at C
  ·rename_i fs D;split at C
   ·rename_i M;cases hz:(zF P t).zero with
    | none=>rw[hz] at C;cases C
    | some z=>
      rw[hz] at C;simp only[Option.bind_some] at C;cases K:vC (ZC P fs) (z.map .v) (evs T ps.toList) with
      | none=>rw[K] at C;cases C
      | some cs=>
        rw[K] at C;injection C with C;injection C with hx1 hx2;subst hx1 hx2;exact(did_build G hB H D M hz K).of rfl
   ·cases C
  ·rename_i m e D;split at C
   ·rename_i M;cases hz:(zF P t).zero with
    | none=>rw[hz] at C;cases C
    | some z=>
      rw[hz] at C;simp only[Option.bind_some] at C;cases K:vC (wi (zF P e).sz) (z.map .v) (evs T ps.toList) with
      | none=>rw[K] at C;cases C
      | some cs=>
        rw[K] at C;injection C with C;injection C with hx1 hx2;subst hx1 hx2;exact(did_build_arr G hB H D M hz K).of rfl
   ·cases C
  ·cases C
 case h_10 t p=>
  cases O:yE h (zF P t) (ev T p) with
  | none=>rw[O] at C;cases C
  | some y=>
    rw[O] at C;injection C with C;injection C with hx1 hx2;subst hx1 hx2;exact(Vm G hB (jt H p) O).of rfl
 case h_11 t p y=>
  split at C
  ·rename_i ht;cases K:(ev T y).cells with
   | none=>rw[K] at C;cases C
   | some ns=>
     rw[K] at C;simp only[Option.bind_some] at C;split at C
     ·rename_i O;cases hs:wj h ns (ev T p) with
      | none=>rw[hs] at C;cases C
      | some h2=>
        rw[hs] at C;injection C with C;injection C with hx1 hx2;subst hx1 hx2;obtain⟨w',g',V,e2⟩:=did_store G hB (jt H p) (jt H y) ht K O hs;exact⟨.skip,undef,w',g',by simp[execOp,V],.inr ⟨rfl,rfl⟩,e2,rfl⟩
     ·cases C
  ·cases C
 case h_12 y=>
  have E:=jt H y;split at C
  ·rename_i id off J;injection C with C;injection C with hx1 hx2;subst hx1 hx2;rw[J] at E;obtain⟨q,e⟩:=E;exact jm G hB (v:=a.eval y) (by simp[execOp,e]) ⟨q,e⟩
  ·rename_i c e i k J;injection C with C;injection C with hx1 hx2;subst hx1 hx2;rw[J] at E;obtain⟨A,m,cp,q1,q2,e⟩:=E;exact jm G hB (v:=a.eval y) (by simp[execOp,e]) ⟨A,m,cp,q1,q2,e⟩
  ·rename_i f p q J;injection C with C;injection C with hx1 hx2;subst hx1 hx2;rw[J] at E;obtain⟨us,vs,e,q⟩:=E;exact jm G hB (v:=a.eval y) (by simp[execOp,e]) ⟨us,vs,e,q⟩
  ·cases C
 case h_13 op t y z _=>
  split at C
  ·rename_i hn;cases hb:Vj P h op t (ev T y) with
   | none=>rw[hb] at C;cases C
   | some r=>
     rw[hb] at C;injection C with C;injection C with hx1 hx2;subst hx1 hx2;exact(did_nil G hB H hn hb).of rfl
  ·cases hb:qEa P op t (ev T y) (ev T z) with
   | none=>rw[hb] at C;cases C
   | some r=>
     rw[hb] at C;injection C with C;injection C with hx1 hx2;subst hx1 hx2;exact(did_bin G hB H hb).of rfl
 case h_14 op _ y=>
  split at C
  ·rename_i k n J;injection C with C;injection C with hx1 hx2;subst hx1 hx2;have e:=wl H J;exact jm G hB (by simp[execOp,e,Op.unary,Op.intArith]) rfl
  ·rename_i b J;injection C with C;injection C with hx1 hx2;subst hx1 hx2;have e:=wl H J;exact jm G hB (by simp[execOp,e,Op.unary]) rfl
  ·cases C
 case h_15 s d y=>
  split at C
  ·rename_i k k' n hs hd J;injection C with C;injection C with hx1 hx2;subst hx1 hx2;have e:=wl H J;obtain⟨d1,i1,hu1,hi1,eq1⟩:=qS hs;obtain⟨d2,Z,Q,N,I⟩:=qS (qW hd zh);rw[I] at hd;cases d2<;>try (cases hd;done)
   injection hd with hd;subst hd;refine jm G hB (v:= .int _ (IntKind.wrap _ n)) ?_ rfl;simp[execOp,e,convert,run_underlying hu1,run_underlying Q,Conv.intToInt]
  ·rename_i rows hs hd J;cases τ:xLa P s rows with
   | none=>rw[τ] at C;cases C
   | some z=>
     rw[τ] at C;injection C with C;injection C with hx1 hx2;subst hx1 hx2;have E:=jt H y;rw[J] at E;obtain⟨u,hr,eu⟩:=run_strA G E hs hd τ;exact jm G hB (v:=u) (by simp[execOp,hr]) eu
  ·cases C
 case h_16 f p q=>
  injection C with C;injection C with hx1 hx2;subst hx1 hx2;refine jm G hB (v:= .func f (p.map a.eval) (q.map a.eval)) (by simp[execOp,Instr.makeFunc]) ⟨_,_,rfl,?_,?_⟩
  ·simpa using ZE H p.toList
  ·simpa using ZE H q.toList
 case h_17 t y i=>
  have E:=jt H y;split at C
  ·rename_i fs D;cases M:fs[i]? with
   | none=>rw[M] at C;cases C
   | some f=>
     rw[M] at C;simp only[Option.bind_some] at C;split at C
     ·rename_i K;obtain⟨d,ii,U,X,eq⟩:=qS (qW D zh);rw[eq] at D;cases d<;>try (cases D;done)
      rename_i fields;injection D with D;obtain⟨d2,Z,Q,N,I⟩:=qS K.1;have ε:Z.size≠0:=(by have:=K.2;rw[I] at this;simp at this;omega);rw[<-D,zw] at M;cases R:fields.toList[i]? with
      | none=>rw[R] at M;cases M
      | some F=>
        rw[R] at M;injection M with M;subst M;have W:fields[i]? =some F:=(by simpa using R);split at C
        ·rename_i id off J;injection C with C;injection C with hx1 hx2;subst hx1 hx2;rw[J] at E;obtain⟨q,e⟩:=E;refine jm G hB (v:= .pointer (some ⟨g.β id,off+F.offset,none⟩)) ?_ ⟨q,rfl⟩;simp[execOp,e,Instr.fieldAt,run_underlying U,W,Instr.sureAddr,fieldPlace,sizeOf,typeInfo,N,ε,Addr.add_lit,ctx]
        ·rename_i c e' j k J;injection C with C;injection C with hx1 hx2;subst hx1 hx2;rw[J] at E;obtain⟨A,m,cp,q1,q2,e⟩:=E;refine jm G hB (v:= .pointer (some (A.add (j*e'+(k+F.offset))))) ?_ ⟨A,m,cp,q1,q2,rfl⟩;simp[execOp,e,Instr.fieldAt,run_underlying U,W,Instr.sureAddr,fieldPlace,sizeOf,typeInfo,N,ε,Addr.add_add,Nat.add_assoc]
        ·cases C
     ·cases C
  ·cases C
 case h_19 t y i=>
  have E:=jt H y;split at C
  ·rename_i e k n D J;split at C
   ·rename_i K;have V:=wl H J;obtain⟨d,ii,U,X,eq⟩:=qS (qW D zh);rw[eq] at D;cases d<;>try (cases D;done)
    injection D with D;subst D;obtain⟨d2,Z,Q,N,I⟩:=qS K.1;cases L:WA h n (ev T y) with
    | none=>rw[L] at C;cases C
    | some z=>
      rw[L] at C;injection C with C;injection C with hx1 hx2;subst hx1 hx2;unfold WA at L;cases hr:zI h (ev T y) with
      | none=>rw[hr] at L;cases L
      | some xs=>
        rw[hr,K.2.2] at L;simp only[Option.bind_some] at L;split at L
        ·rename_i hn;injection L with L;subst L;obtain⟨A,cp,q1,q2,q3,_⟩:=rows_ok G _ E hr;have hra:=q3 _ K.2.2;have ν:n.toNat<xs.length:=zb
         have hA:∃ad,A=some ad:=by
          have hrow:xs[n.toNat]? =some xs[n.toNat]:=zg ν;have h0:=K.2.1;have O:=hra.len _ (zx ν);obtain⟨ad,u,z1,_⟩:=hra.cell _ 0 _ (nth xs[n.toNat] 0) hrow (wA zb);exact⟨ad,z1⟩
         obtain⟨ad,rfl⟩:=hA;refine jm G hB (v:= .pointer (some (ad.add (n.toNat*Z.size)))) ?_ ⟨ad,xs.length,cp,by rw[<-q1];exact E,ν,by rw[I,Nat.add_zero]⟩;simp[execOp,V,q1,Instr.indexAt,asIntOf,run_underlying U,sizeOf,typeInfo,N,hn.1,hn.2]
        ·cases L
   ·cases C
  ·rename_i m e k n D J;split at C
   ·rename_i K;obtain⟨c1,c2,c3⟩:=K;have V:=wl H J;obtain⟨d,ii,U,X,eq⟩:=qS (qW D zh);rw[eq] at D;cases d<;>try (cases D;done)
    injection D with hk1 hk2;subst hk1 hk2;obtain⟨d2,Z,Q,N,I⟩:=qS c1;split at C
    ·rename_i id off υ;injection C with C;injection C with hx1 hx2;subst hx1 hx2;rw[υ] at E;obtain⟨q,e⟩:=E;refine jm G hB (v:= .pointer (some ⟨g.β id,off+n.toNat*Z.size,none⟩)) ?_ ⟨q,by rw[I];rfl⟩;simp[execOp,V,e,Instr.indexAt,asIntOf,run_underlying U,Instr.sureAddr,sizeOf,typeInfo,N,c2,c3,Addr.add_lit,ctx]
    ·rename_i c e' j k2 υ;injection C with C;injection C with hx1 hx2;subst hx1 hx2;rw[υ] at E;obtain⟨A,m',cp,q1,q2,e⟩:=E;refine jm G hB (v:= .pointer (some (A.add (j*e'+(k2+n.toNat*Z.size))))) ?_ ⟨A,m',cp,q1,q2,by rw[I]⟩;simp[execOp,V,e,Instr.indexAt,asIntOf,run_underlying U,Instr.sureAddr,sizeOf,typeInfo,N,c2,c3,Addr.add_add,Nat.add_assoc]
    ·cases C
   ·cases C
  ·cases C
 case h_18 t y i=>
  have E:=jt H y;split at C
  ·rename_i fs cs D J;cases M:fs[i]? with
   | none=>rw[M] at C;cases C
   | some f=>
     rw[M] at C;simp only[Option.bind_some] at C;split at C
     ·rename_i ho;obtain⟨d,ii,U,X,eq⟩:=qS (qW D zh);rw[eq] at D;cases d<;>try (cases D;done)
      rename_i fields;injection D with D;rw[<-D,zw] at M;cases R:fields.toList[i]? with
      | none=>rw[R] at M;cases M
      | some F=>
        rw[R] at M;injection M with M;subst M;have W:fields[i]? =some F:=(by simpa using R);rw[J] at E;obtain⟨vs,e,q⟩:=E;cases hp:part cs F.offset (zF P F.type).agg (zF P F.type).sz with
        | none=>rw[hp] at C;cases C
        | some r=>
          rw[hp] at C;injection C with C;injection C with hx1 hx2;subst hx1 hx2;obtain⟨u,z1,z2⟩:=Vq (P:=P) (w:=w) ho q hp;exact jm G hB (v:=u) (by simp[execOp,e,Instr.field,run_underlying U,W,asAgg,z1]) z2
     ·cases C
  ·cases C
 case h_20 t y i=>
  have E:=jt H y;split at C
  ·rename_i m e cs k n D J hi;split at C
   ·rename_i K;obtain⟨c1,c2,c3⟩:=K;have V:=wl H hi;obtain⟨d,ii,U,X,eq⟩:=qS (qW D zh);rw[eq] at D;cases d<;>try (cases D;done)
    injection D with hk1 hk2;subst hk1 hk2;rename_i m e;obtain⟨d2,Z,Q,N,I⟩:=qS c1;rw[J] at E;obtain⟨vs,ee,q⟩:=E;cases hp:part cs (n.toNat*(zF P e).sz) (zF P e).agg (zF P e).sz with
    | none=>rw[hp] at C;cases C
    | some r=>
      rw[hp] at C;injection C with C;injection C with hx1 hx2;subst hx1 hx2;obtain⟨u,z1,z2⟩:=Vq (P:=P) (w:=w) c1 q hp;have ε:(zF P e).sz=Z.size:=(by rw[I]);rw[ε] at z1;exact jm G hB (v:=u) (by simp[execOp,V,ee,Instr.index,asIntOf,run_underlying U,sizeOf,typeInfo,N,c2,c3,z1]) z2
   ·cases C
  ·cases C
 case h_21 t y lo hi=>
  split at C
  ·rename_i e D;cases hr:zI h (ev T y) with
   | none=>rw[hr] at C;cases C
   | some xs=>
     rw[hr] at C;simp only[Option.bind_some] at C;cases O:wC T 0 lo with
     | none=>rw[O] at C;cases C
     | some l=>
       rw[O] at C;simp only[Option.bind_some] at C;cases hm:wC T xs.length hi with
       | none=>rw[hm] at C;cases C
       | some m=>
         rw[hm] at C;simp only[Option.bind_some] at C;split at C
         ·rename_i K;obtain⟨c1,c2,c3,c4,c5⟩:=K;injection C with C;injection C with hx1 hx2;subst hx1 hx2;exact(did_slice G hB H D hr O hm c1 c2 c3 c4 c5).of rfl
         ·cases C
  ·cases C
 case h_22 t m k v=>
  split at C
  ·rename_i kt et id kk n D hm Y;split at C
   ·rename_i kk' es S ho;split at C
    ·rename_i heq;subst heq;cases hi:yG kk' n (ev T v) es with
     | none=>rw[hi] at C;cases C
     | some es'=>
       rw[hi] at C;injection C with C;injection C with hx1 hx2;subst hx1 hx2;obtain⟨d,ii,U,X,eq⟩:=qS (qW D zh);rw[eq] at D;cases d<;>try (cases D;done)
       injection D with hk1 hk2;subst hk1 hk2;obtain⟨d2,Z,Q,hin2,I⟩:=qS (qW S zh);rw[I] at S;cases d2<;>try (cases S;done)
       have V:=wl H Y;have E:=jt H m;rw[hm] at E;obtain⟨q,e2⟩:=E;obtain⟨w',r1,r2⟩:=did_insert (P:=P) G hB U Q ho (jt H v) hi;refine⟨.skip,undef,w',g,?_,.inr ⟨rfl,rfl⟩,r2,rfl⟩;simp only[execOp,V,e2];have e3:(ctx w g h).β id=g.β id:=rfl;rw[e3,Sem.run_bind,r1];rfl
    ·cases C
   ·cases C
  ·cases C
 case h_23 t m k ok=>
  split at C
  ·rename_i kt et id kk n D hm Y;split at C
   ·rename_i kk' es z S ho hz;split at C
    ·rename_i heq;subst heq;cases O:Vk kk' n z es with
     | none=>rw[O] at C;cases C
     | some p=>
       rw[O] at C;injection C with C;injection C with hx1 hx2;subst hx1 hx2;unfold Vk at O;split at O
       ·rename_i hko;injection O with O;subst O;obtain⟨d,ii,U,X,eq⟩:=qS (qW D zh);rw[eq] at D;cases d<;>try (cases D;done)
        injection D with hk1 hk2;subst hk1 hk2;obtain⟨d2,Z,Q,hin2,I⟩:=qS (qW S zh);rw[I] at S;cases d2<;>try (cases S;done)
        have V:=wl H Y;have E:=jt H m;rw[hm] at E;obtain⟨q,e2⟩:=E;obtain⟨zu,z1,z2⟩:=qFa (P:=P) (w:=w) (c:=ctx w g h) hz;obtain⟨p1,es0,k0,l',p2,p3,p4,p5⟩:=G.ok id _ ho;obtain⟨u,u1,u2⟩:=run_lookup_int (P:=P) (n:=n) (ok:=ok) U Q p2 p3 p4 p5 hko z1 z2;refine jm G hB (v:=u) ?_ u2;simp only[execOp,V,e2,Sem.run_bind,u1];rfl
       ·cases O
    ·cases C
   ·cases C
  ·cases C
 case h_24 y i=>
  have E:=jt H y;split at C
  ·rename_i cs J;split at C
   ·rename_i hi;injection C with C;injection C with hx1 hx2;subst hx1 hx2;rw[J] at E;obtain⟨vs,e,q⟩:=E;obtain⟨u,q1,q2⟩:=wX q i hi;have q1':vs[i]? =some u:=(by simpa using q1);exact jm G hB (v:=u) (by simp[execOp,e,Instr.extract,q1']) q2
   ·cases C
  ·cases C
 case h_25 c=>exact did_call G hB H C
 case h_26=>cases C
end
section
variable {φ:Nat->Ob} {h h':List Ob} {P:Program} {x:AV} {T:Nat->AV} {i:Nat} {o:Ob}
def wm:∀(a:AV) {e:Nat},eOf h a=some e->eOf (fill φ h) a=some e
 | .sl _ _,_,b=>b
 | .tl id st,e,b=>by
   simp only[eOf] at b⊢;split at b
   ·rename_i ty g ys s d;rw[jD d rfl];exact b
   ·cases b
 | .vw a f i n,e,b=>by
   simp only[eOf] at b⊢;cases c:eOf h a with
   | none=>rw[c] at b;cases b
   | some j=>rw[c] at b;rw[wm a c];exact b
 | .v _,_,b | .em,_,b | .ptr _ _,_,b | .ep _ _ _ _,_,b | .mp _,_,b | .ag _,_,b | .tup _,_,b | .fn _ _ _,_,b | .bad,_,b=>by cases b
def j6:∀(a:AV) {xs:List (List AV)},zI h a=some xs->zI (fill φ h) a=some xs
 | .sl _ _,_,b=>b
 | .em,_,b=>b
 | .tl id st,xs,b=>by
   simp only[zI] at b⊢;split at b
   ·rename_i ty g ys s f;rw[jD f rfl];exact b
   ·cases b
 | .vw a e i n,xs,b=>by
   simp only[zI] at b⊢;cases c:zI h a with
   | none=>rw[c] at b;cases b
   | some ys=>
     rw[c] at b;rw[j6 a c];simp only[Option.bind_some] at b⊢;split at b
     ·rename_i d;rw[if_pos ⟨d.1,d.2.imp id (wm a)⟩];exact b
     ·cases b
 | .v x,xs,b=>by
   unfold zI at b⊢;split at b
   ·rename_i heq;cases heq
   ·rename_i heq;cases heq
   ·rename_i heq;cases heq
   ·rename_i heq;cases heq;exact b
   ·rename_i heq;cases heq
   ·cases b
 | .ptr _ _,_,b | .ep _ _ _ _,_,b | .mp _,_,b | .ag _,_,b | .tup _,_,b | .fn _ _ _,_,b | .bad,_,b=>by cases b
def Vr(a:AV)(b:ZD h a=true):ZD (fill φ h) a=true:=by
 unfold ZD at b⊢;rw[Bool.or_eq_true] at b⊢;refine b.imp id λb=>?_;cases c:zI h a with
 | none=>rw[c] at b;cases b
 | some xs=>cases d:eOf h a with
   | none=>rw[c,d] at b;cases xs<;>cases b
   | some e=>rw[c,d] at b;rw[j6 a c,wm a d];exact b
def zua{op:BinOp}{t:TypeId}(a:AV)(b:Vj P h op t a=some x):Vj P (fill φ h) op t a=some x:=by
 unfold Vj at b⊢
 cases e:(zF P t).kind<;>rw[e] at b<;>first
  | cases b;done
  | skip
 simp only at b⊢;cases d:Qn a with
 | true=>rw[d] at b;exact b
 | false=>
   rw[d] at b;simp only[Bool.false_eq_true,if_false] at b⊢;split at b
   ·rename_i c;rw[if_pos (Vr _ c)];exact b
   ·cases b
def Jx{τ:Ty}:∀(a:AV),yE h τ a=some x->yE (fill φ h) τ a=some x
 | .ptr id off,b=>by
   simp only[yE] at b⊢;split at b
   ·rename_i f;simp only[jD f rfl];exact b
   ·cases b
 | .ep a e i k,b=>by
   simp only[yE] at b⊢;split at b
   ·rename_i d;rw[if_pos ⟨d.1,wm _ d.2⟩];cases c:zI h a with
    | none=>rw[c] at b;cases b
    | some xs=>rw[c] at b;rw[j6 _ c];exact b
   ·cases b
 | .sl _ _,b | .tl _ _,b | .em,b | .vw _ _ _ _,b | .v _,b | .mp _,b | .ag _,b | .tup _,b | .fn _ _ _,b | .bad,b=>by cases b
def zva{n:Int}(a:AV)(b:WA h n a=some x):WA (fill φ h) n a=some x:=by
 unfold WA at b⊢;cases d:zI h a with
 | none=>rw[d] at b;cases b
 | some xs=>
   rw[d] at b;cases c:eOf h a with
   | none=>rw[c] at b;cases b
   | some e=>rw[c] at b;rw[j6 a d,wm a c];exact b
def Vs{f:List AV}:∀(a:AV),wj h f a=some h'->wj (fill φ h) f a=some (fill φ h')/\ResK h h'
 | .ptr id off,b=>by
   simp only[wj] at b⊢;split at b
   ·rename_i ty l d;simp only[jD d rfl];cases c:lay l off f with
    | none=>rw[c] at b;cases b
    | some j=>
      rw[c] at b;injection b with b;subst b;exact⟨by rw[ko rfl];rfl,qX d rfl⟩
   ·cases b
 | .ep (.tl id st) e i k,b=>by
   simp only[wj] at b⊢;split at b
   ·rename_i ty m xs s d;simp only[jD d rfl];split at b
    ·rename_i g;rw[if_pos g];cases hi:xs[i]? with
     | none=>rw[hi] at b;cases b
     | some r=>
       rw[hi] at b;simp only[Option.bind_some] at b⊢;cases c:lay r k f with
       | none=>rw[c] at b;cases b
       | some n=>
         rw[c] at b;injection b with b;subst b;exact⟨by rw[ko rfl];rfl,qX d rfl⟩
    ·cases b
   ·cases b
 | .ep (.sl _ _) _ _ _,b | .ep .em _ _ _,b | .ep (.vw _ _ _ _) _ _ _,b | .ep (.v _) _ _ _,b | .ep (.ptr _ _) _ _ _,b | .ep (.ep _ _ _ _) _ _ _,b | .ep (.mp _) _ _ _,b | .ep (.ag _) _ _ _,b | .ep (.tup _) _ _ _,b | .ep (.fn _ _ _) _ _ _,b | .ep .bad _ _ _,b=>by cases b
 | .sl _ _,b | .tl _ _,b | .em,b | .vw _ _ _ _,b | .v _,b | .mp _,b | .ag _,b | .tup _,b | .fn _ _ _,b | .bad,b=>by cases b
def KD(g:Upto φ h.length){e:TypeId}(s y:AV)(a:yk P h e s y=some (x,h')):yk P (fill φ h) e s y=some (x,fill φ h')/\ResK h h':=by
 unfold yk at a⊢;cases c:zI h y with
 | none=>simp[c] at a
 | some ys=>
   rw[j6 y c];simp only[c,Option.bind_some] at a⊢;split at a
   ·rename_i f;rw[if_pos f];split at a
    ·split at a
     ·rename_i id st ty i xs s d;simp only[jD d rfl];split at a
      ·rename_i b;rw[if_pos b];injection a with a;injection a with h1 h2;subst h1 h2;exact⟨by rw[ko rfl],qX d rfl⟩
      ·cases a
     ·cases a
    ·split at a
     ·rename_i b;simp only[if_pos b];injection a with a;injection a with h1 h2;subst h1 h2;exact⟨by rw[wh g,jH],jp⟩
     ·cases a
    ·cases a
   ·cases a
def Z1{q:Nat × Nat × Nat × Nat}:∀(y:AV),xr h y=some q->xr (fill φ h) y=some q
 | .tl id st,a=>by
   simp only[xr] at a⊢;split at a
   ·rename_i b;simp only[jD b rfl];exact a
   ·cases a
 | .vw (.tl id st) e i n,a=>by
   simp only[xr] at a⊢;split at a
   ·rename_i b;simp only[jD b rfl];exact a
   ·cases a
 | .vw (.sl _ _) _ _ _,a | .vw .em _ _ _,a | .vw (.vw _ _ _ _) _ _ _,a | .vw (.v _) _ _ _,a | .vw (.ptr _ _) _ _ _,a | .vw (.ep _ _ _ _) _ _ _,a | .vw (.mp _) _ _ _,a | .vw (.ag _) _ _ _,a | .vw (.tup _) _ _ _,a | .vw (.fn _ _ _) _ _ _,a | .vw .bad _ _ _,a=>by cases a
 | .sl _ _,a | .em,a | .ptr _ _,a | .ep _ _ _ _,a | .v _,a | .mp _,a | .ag _,a | .tup _,a | .fn _ _ _,a | .bad,a=>by cases a
def Z2{id i ty e:Nat}{ys:List (List AV)}(a:xL h id i ty e ys=some h'):xL (fill φ h) id i ty e ys=some (fill φ h')/\ResK h h':=by
 unfold xL at a⊢;split at a
 ·rename_i b;simp only[jD b rfl];split at a
  ·rename_i c;rw[if_pos c];injection a with a;subst a;exact⟨by rw[ko rfl],qX b rfl⟩
  ·cases a
 ·cases a
def WB(s:Upto φ h.length)(c:Call)(a:wY P T h c=some (x,h')):wY P T (fill φ h) c=some (x,fill φ h')/\ResK h h':=by
 unfold wY at a⊢;split at a
 ·split at a
  ·rename_i e g;cases b:zI h (ev T _) with
   | none=>rw[b] at a;cases a
   | some xs=>
     rw[b] at a;injection a with a;injection a with h1 d;subst h1 d;simp only[g,j6 _ b];exact⟨rfl,.refl⟩
  ·cases a
 ·split at a
  ·rename_i e g;split at a
   ·rename_i r;simp only[g,if_pos r];exact KD s _ _ a
   ·cases a
  ·cases a
 ·split at a
  ·rename_i e g;cases f:xr h (ev T _) with
   | none=>rw[f] at a;cases a
   | some q=>
     obtain⟨id,st,i,n⟩:=q;rw[f] at a;simp only[Option.bind_some] at a;cases o:(zF P e).zero with
     | none=>rw[o] at a;cases a
     | some z=>
       rw[o] at a;simp only[Option.bind_some] at a;split at a
       ·rename_i p;cases b:xL h id i e (zF P e).sz (List.replicate n (z.map .v)) with
        | none=>rw[b] at a;cases a
        | some d=>
          rw[b] at a;injection a with a;injection a with h1 d;subst h1 d;obtain⟨k,m⟩:=Z2 (φ:=φ) b;simp only[g,Z1 _ f,Option.bind_some,o,if_pos p,k];exact⟨rfl,m⟩
       ·cases a
  ·cases a
 ·split at a
  ·rename_i e g;split at a
   ·rename_i p;cases f:xr h (ev T _) with
    | none=>rw[f] at a;cases a
    | some q=>
      obtain⟨id,st,i,n⟩:=q;rw[f] at a;simp only[Option.bind_some] at a;cases l:zI h (ev T _) with
      | none=>rw[l] at a;cases a
      | some ys=>
        rw[l] at a;simp only[Option.bind_some] at a;cases b:xL h id i e (zF P e).sz (ys.take n) with
        | none=>rw[b] at a;cases a
        | some d=>
          rw[b] at a;injection a with a;injection a with h1 d;subst h1 d;obtain⟨k,m⟩:=Z2 (φ:=φ) b;simp only[g,if_pos p,Z1 _ f,Option.bind_some,j6 _ l,k];exact⟨rfl,m⟩
   ·cases a
  ·cases a
 ·cases j:Vh _ _ with
  | none=>rw[j] at a;cases a
  | some y=>
    rw[j] at a;injection a with a;injection a with h1 d;subst h1 d;exact⟨rfl,.refl⟩
 ·cases j:Vi _ _ with
  | none=>rw[j] at a;cases a
  | some y=>
    rw[j] at a;injection a with a;injection a with h1 d;subst h1 d;exact⟨rfl,.refl⟩
 ·cases a
def Vt{op:Op}{mk:Nat->AV}(a:ji P T op=some (o,mk)):o.isRes=false:=by
 unfold ji at a
 repeat' split at a
 all_goals first
  | cases a;done
  | (simp only[Option.map_eq_some_iff,Prod.mk.injEq] at a;obtain⟨_,_,rfl,_⟩:=a;rfl)
  | (injection a with a;injection a with h1 h2;subst h1;rfl)
def jV{α:Type}{y:Option α}{f:α->AV}(b:(y.map λa=>(f a,h))=some (x,h')):∃a,y=some a/\f a=x/\h=h':=by
 cases y with
 | none=>cases b
 | some a=>injection b with b;injection b with h1 h2;exact⟨a,rfl,h1,h2⟩
def wE(H:Upto φ h.length)(op:Op)(b:zO P T h op=some (x,h')):zO P T (fill φ h) op=some (x,fill φ h')/\ResK h h':=by
 have alloc:∀s,(ji P T s).map (λq=>(q.2 h.length,h++[q.1]))=some (x,h')->(ji P T s).map (λq=>(q.2 (fill φ h).length,fill φ h++[q.1]))=some (x,fill φ h')/\ResK h h':=λs b=>by
  cases J:ji P T s with
  | none=>rw[J] at b;cases b
  | some q=>
    rw[J] at b;injection b with b;injection b with g d;subst g d;exact⟨by rw[wh H,jH];rfl,jp⟩
 have same:∀ {y:AV},some (y,h)=some (x,h')->some (y,fill φ h)=some (x,fill φ h')/\ResK h h':=λe=>by
  injection e with e;injection e with g d;subst g d;exact⟨rfl,.refl⟩
 cases op with
 | move y=>exact same b
 | assign y=>exact same b
 | makeFunc f p q=>exact same b
 | alloc t=>exact alloc _ b
 | box t y=>exact alloc _ b
 | buildSlice t n E=>exact alloc _ b
 | makeSlice t l c=>exact alloc _ b
 | makeMap t r=>exact alloc _ b
 | call c=>exact WB H c b
 | load t y=>
   obtain⟨a,g,d,o⟩:=jV b;subst d o;exact⟨by simp only[zO,Jx _ g];rfl,.refl⟩
 | store t y z=>
   simp only[zO] at b⊢;split at b
   ·rename_i O;cases j:(ev T z).cells with
    | none=>rw[j] at b;cases b
    | some M=>
      rw[j] at b;simp only[Option.bind_some] at b;split at b
      ·rename_i w;cases C:wj h M (ev T y) with
       | none=>rw[C] at b;cases b
       | some d=>
         rw[C] at b;injection b with b;injection b with g d;subst g d;obtain⟨Q,K⟩:=Vs (φ:=φ) _ C;exact⟨by simp only[if_pos O,j,Option.bind_some,if_pos w,Q];rfl,K⟩
      ·cases b
   ·cases b
 | binOp op t y z u=>
   simp only[zO] at b⊢;split at b
   ·rename_i D;obtain⟨a,g,d,o⟩:=jV b;subst d o;exact⟨by simp only[if_pos D,zua _ g];rfl,.refl⟩
   ·rename_i D;obtain⟨a,g,d,o⟩:=jV b;subst d o;exact⟨by simp only[if_neg D,g];rfl,.refl⟩
 | indexAddr t y z=>
   simp only[zO] at b⊢;split at b
   ·split at b
    ·rename_i j;obtain⟨a,g,d,o⟩:=jV b;subst d o;exact⟨by simp only[if_pos (show _/\_/\_ from⟨j.1,j.2.1,wm (φ:=φ) _ j.2.2⟩),zva _ g];rfl,.refl⟩
    ·cases b
   ·split at b
    ·rename_i j;simp only[if_pos j];split at b
     ·exact same b
     ·exact same b
     ·cases b
    ·cases b
   ·cases b
 | slice t y lo hi N=>
   cases N with
   | some m=>cases b
   | none=>
     simp only[zO] at b⊢;split at b
     ·rename_i e R;cases F:zI h (ev T y) with
      | none=>rw[F] at b;cases b
      | some xs=>
        rw[F] at b;simp only[j6 _ F,Option.bind_some] at b⊢;cases w:wC T 0 lo with
        | none=>rw[w] at b;cases b
        | some l=>
          rw[w] at b;simp only[Option.bind_some] at b⊢;cases I:wC T xs.length hi with
          | none=>rw[I] at b;cases b
          | some m=>
            rw[I] at b;simp only[Option.bind_some] at b⊢;split at b
            ·rename_i j;rw[if_pos ⟨j.1,j.2.1,j.2.2.1,j.2.2.2.1,j.2.2.2.2.imp id λk=>⟨k.1,wm _ k.2⟩⟩];exact same b
            ·cases b
     ·cases b
 | insert t m k v=>
   simp only[zO] at b⊢;split at b
   ·split at b
    ·rename_i kk' es A B;simp only[jD B rfl];split at b
     ·rename_i heq;simp only[A,if_pos heq];cases hi:yG _ _ (ev T v) es with
      | none=>rw[hi] at b;cases b
      | some es'=>
        rw[hi] at b;injection b with b;injection b with g d;subst g d;exact⟨by rw[ko rfl];rfl,qX B rfl⟩
     ·cases b
    ·cases b
   ·cases b
 | lookup t m k ok=>
   simp only[zO] at b⊢;split at b
   ·split at b
    ·rename_i kk' es z A B L;simp only[jD B rfl,L];split at b
     ·rename_i heq;simp only[A,if_pos heq];cases w:Vk _ _ z es with
      | none=>rw[w] at b;cases b
      | some p=>
        rw[w] at b;exact same b
     ·cases b
    ·cases b
   ·cases b
 | build t E=>
   have h0:∀h,zO P T h (.build t E)=(zO P T [] (.build t E)).map λq=>(q.1,h):=λh=>by
    simp only[zO];split
    ·split
     ·cases (zF P t).zero with
      | none=>rfl
      | some z=>simp only[Option.bind_some];cases vC _ _ _<;>rfl
     ·rfl
    ·split
     ·cases (zF P t).zero with
      | none=>rfl
      | some z=>simp only[Option.bind_some];cases vC _ _ _<;>rfl
     ·rfl
    ·rfl
   rw[h0] at b⊢;obtain⟨a,g,d,o⟩:=jV b;subst d o;exact⟨by rw[g];rfl,.refl⟩
 | fieldAddr t y i=>
   have h0:∀h,zO P T h (.fieldAddr t y i)=(zO P T [] (.fieldAddr t y i)).map λq=>(q.1,h):=λh=>by
    simp only[zO];split
    ·rename_i G _;cases G[i]? with
     | none=>rfl
     | some f=>
       simp only[Option.bind_some];split
       ·split<;>rfl
       ·rfl
    ·rfl
   rw[h0] at b⊢;obtain⟨a,g,d,o⟩:=jV b;subst d o;exact⟨by rw[g];rfl,.refl⟩
 | field t y i=>
   have h0:∀h,zO P T h (.field t y i)=(zO P T [] (.field t y i)).map λq=>(q.1,h):=λh=>by
    simp only[zO];split
    ·rename_i G _ _ _;cases G[i]? with
     | none=>rfl
     | some f=>
       simp only[Option.bind_some];split
       ·cases part _ _ _ _<;>rfl
       ·rfl
    ·rfl
   rw[h0] at b⊢;obtain⟨a,g,d,o⟩:=jV b;subst d o;exact⟨by rw[g];rfl,.refl⟩
 | _=>
   simp only[zO] at b⊢
   try cases b
   all_goals (repeat' split at b)
   all_goals first
    | cases b;done
    | exact same b
    | (obtain⟨a,g,d,o⟩:=jV b;subst d o;exact⟨by simp only[g];rfl,.refl⟩)
    | (rename_i j;rw[if_pos j];exact same b)
    | (rename_i j;rw[if_neg j];exact same b)
    | (rename_i j;rw[if_pos j];obtain⟨a,g,d,o⟩:=jV b;subst d o;exact⟨by simp only[g];rfl,.refl⟩)
end
