import Derived.Test.YtigdlmpjijhpaaaGreatKA
import Derived.Test.YtigdlmpjijhpaaaGreatK09
import Derived.LoopN
set_option linter.all false
namespace Go.Proofs.YtigdlmpjijhpaaaGreat.Ax
open Go Go.RowKit
def Voa(x:Option Oper)[k:Held (Oper->Prop)]:Prop:=match x with
 | some o=>k.it o
 | none=>False
def Vpa(b s:Nat):Nat:=b+s
def jGa(x:Option (Ob × (Nat->AV)))(h:List Ob)(id:Nat)[k:Held (AV->List Ob->Prop)]:Prop:=match x with
 | some (ob,mk)=>h[id]? =some .res/\k.it (mk id) (h.set id ob)
 | none=>False
def vU:Op->Bool
 | .alloc .. | .box .. | .buildSlice .. | .makeSlice .. | .makeMap .. =>true
 | _=>false
theorem xUa(op:Op):vU op=true↔cls op=3:=by
 cases op
 case call c=>
  obtain⟨callee,args,a⟩:=c
  cases callee with
  | builtin b=>cases b<;>simp[vU,cls]
  | value x=>simp[vU,cls]
  | invoke r m=>simp[vU,cls]
 case binOp op t y z u=>simp only[vU,cls];split<;>simp
 all_goals simp[vU,cls]
def WS(P:Program)(ops:Array Oper)(b:Nat)(q:Ent)(o:Oper)(K:Env->List Ob->Prop)(T:Env)(h:List Ob):Prop:=
 if vU o.op then @jGa (jG P T o.op) h (Vpa b q.2.1) ⟨λx h'=>K (jb T o.dst x) h'⟩ else z8a P T h o (λT h=>jI P ops T h q.2.2/\K T h)
def YI(P:Program)(ops:Array Oper)(b:Nat)(q:Ent)(K:Env->List Ob->Prop)(T:Env)(h:List Ob)(o:Oper):Prop:=match o.guard with
 | none=>WS P ops b q o K T h
 | some (j,want)=> @wV (yL ops j T) want ⟨WS P ops b q o K T h⟩ ⟨jI P ops (jb T o.dst (.v undef)) h q.2.2/\K (jb T o.dst (.v undef)) h⟩
def wpQ(P:Program)(ops:Array Oper)(b:Nat)(K:Env->List Ob->Prop):List Ent->Env->List Ob->Prop
 | [],T,h=>K T h
 | q::r,T,h=> @Voa ops[q.1]? ⟨YI P ops b q (wpQ P ops b K r) T h⟩
section
variable {P:Program} {N:Nat} {B:Bs} {ops:Array Oper} {T:Env} {h:List Ob} {Q Q':xR}
theorem qBa{o:Oper}{K K':Env->List Ob->Prop}(k:Ys P T h o K)(b:∀T h,K T h->K' T h):Ys P T h o K':=by
 unfold Ys at k⊢
 split
 ·rename_i l ar a
  rw[a] at k
  exact JO k λh' q=>b _ _ q
 ·rename_i a
  rw[a] at k
  exact Xs k b
theorem xVa{K:Env->List Ob->Prop}:∀(l:List Oper) {T:Env} {h:List Ob},wpR P ops K l T h->wpA P ops K l T h
 | [],_,_,k=>k
 | o::r,T,h,k=>by
   have a:∀T h,wpR P ops K r T h->wpA P ops K r T h:=λT h=>xVa r
   unfold wpR at k
   unfold wpA
   cases g:o.guard with
   | none=>simp only[g] at k ⊢;exact qBa (JJa k) a
   | some q=>
     obtain⟨j,want⟩:=q
     simp only[g,yL] at k⊢
     cases f:(ops[j]?).bind (·.dst) with
     | none=>simp only[f,wV] at k
     | some d=>
       simp only[f] at k⊢
       unfold wV at k
       split at k
       ·rename_i b c
        rw[c]
        refine⟨λe=>qBa (JJa (k.1 (by simp[e]))) a,λe=>a _ _ (k.2 (by simp[e]))⟩
       ·rename_i vs c
        rw[c]
        exact a _ _ k
       ·exact k.elim
theorem qD:∀(c:Code),okC N c=true->∀ {Q:xR} {T:Env} {h:List Ob},wpC P N B c Q T h->AWp P N B c Q T h:=by
 intro c
 induction c with
 | skip=>intro _ Q T h k;exact Jka k
 | label l=>intro _ Q T h k;exact Zta k
 | seq a b i j=>
   intro g Q T h k
   simp only[okC,zq] at g
   refine Z5 ((i g.1 k).mono λe T h q=>?_)
   cases e<;>first
    | exact j g.2 q
    | exact q
 | region id ops d=>
   intro g Q T h k
   cases d with
   | false=>exact vBa g (xVa _ k)
   | true=>exact k
 | cond x a b i j=>
   intro g Q T h k
   simp only[okC,zq] at g
   unfold wpC Yw at k
   split at k
   ·rename_i t n
    exact Jma n (λe=>i g.1 (k.1 e)) (λe=>j g.2 (k.2 e))
   ·exact k.elim
 | block id c m=>intro g Q T h k;exact VD (m g k)
 | loop c m=>intro _ Q T h k;exact k
 | exit id=>intro _ Q T h k;exact Jla k
 | ret=>intro _ Q T h k;exact jya k
 | rangeFunc f p a b _ _=>intro _ Q T h k;exact k
 | scope b _=>intro _ Q T h k;exact k
 | goto l=>intro _ Q T h k;exact k
 | refuse w=>intro _ Q T h k;exact k
theorem JTa{b:Nat}{K:Env->List Ob->Prop}:∀(l:List Ent) {T:Env} {h:List Ob},wpQ P ops b K l T h->wpE P ops b K l T h
 | [],_,_,k=>k
 | q::r,T,h,k=>by
   have f:∀T h,wpQ P ops b K r T h->wpE P ops b K r T h:=λT h=>JTa r
   unfold wpQ Voa at k
   unfold wpE
   split at k
   ·rename_i o t
    rw[t]
    simp only
    have k:YI P ops b q (wpQ P ops b K r) T h o:=k
    by_cases m:cls o.op=3
    ·have n:=(xUa o.op).2 m
     have a:WS P ops b q o (wpQ P ops b K r) T h->JP P (b+q.2.1) o (wpE P ops b K r) T h:=λk=>by
      unfold WS at k
      rw[if_pos n] at k
      unfold jGa at k
      unfold JP
      split at k
      ·rename_i ob mk s;rw[s];exact⟨k.1,f _ _ k.2⟩
      ·exact k.elim
     rw[we m]
     unfold YB kT
     unfold YI at k
     cases i:o.guard with
     | none=>simp only[i] at k ⊢;exact a k
     | some p=>
       obtain⟨j,want⟩:=p
       simp only[i,yL] at k⊢
       cases g:(ops[j]?).bind (·.dst) with
       | none=>simp only[g,wV] at k
       | some d=>
         simp only[g] at k⊢
         unfold wV at k
         split at k
         ·rename_i b c
          rw[c]
          exact⟨λe=>a (k.1 (by simp[e])),λe=>f _ _ (k.2 (by simp[e])).2⟩
         ·rename_i vs c
          rw[c]
          exact f _ _ k.2
         ·exact k.elim
    ·have n:¬ vU o.op=true:=λh=>m ((xUa o.op).1 h)
     have a:WS P ops b q o (wpQ P ops b K r) T h->yk P T h o (λT h=>jI P ops T h q.2.2/\wpE P ops b K r T h):=λk=>by
      unfold WS at k
      rw[if_neg n] at k
      exact Xs (jAa k) λT h ⟨k1,k2⟩=>⟨k1,f _ _ k2⟩
     rw[wW m]
     unfold vO kT JKa
     unfold YI at k
     cases i:o.guard with
     | none=>simp only[i] at k ⊢;exact a k
     | some p=>
       obtain⟨j,want⟩:=p
       simp only[i,yL] at k⊢
       cases g:(ops[j]?).bind (·.dst) with
       | none=>simp only[g,wV] at k
       | some d=>
         simp only[g] at k⊢
         unfold wV at k
         split at k
         ·rename_i b c
          rw[c]
          exact⟨λe=>a (k.1 (by simp[e])),λe=>let q:=k.2 (by simp[e]);⟨q.1,f _ _ q.2⟩⟩
         ·rename_i vs c
          rw[c]
          exact⟨k.1,f _ _ k.2⟩
         ·exact k.elim
   ·exact k.elim
theorem zQ{id:Nat}(c:P.follows .mixedOrders=true)(L:List Ob)(k:Nat)(a:List Ent)(e:L=List.replicate k .res)(d:ops.toList.all (vu N)=true)(b:YC ops k a=true)(q:wpQ P ops h.length (Q .normal) a T (h++L)): @Z6 P N B ⟨(.region id ops true,Q)⟩ T h:=
 JSa c k a d b (JTa _ (e▸q))
section
variable {b:Nat} {K:Env->List Ob->Prop} {q:Ent} {o:Oper} {dst:Option Tmp} {op:Op} {type:TypeId} {pos:String} {after:Array Edge}
theorem Vqa:wpQ P ops b K [] T h=K T h:=id rfl
theorem JUa{r:List Ent}:wpQ P ops b K (q::r) T h= @Voa ops[q.1]? ⟨YI P ops b q (wpQ P ops b K r) T h⟩:=id rfl
theorem ZJa{k:Oper->Prop}: @Voa (some o) ⟨k⟩=k o:=id rfl
theorem vSa:YI P ops b q K T h ⟨dst,op,type,pos,after,none⟩=WS P ops b q ⟨dst,op,type,pos,after,none⟩ K T h:=id rfl
theorem vTa{j:Nat}{want:Bool}:YI P ops b q K T h ⟨dst,op,type,pos,after,some (j,want)⟩= @wV (yL ops j T) want ⟨WS P ops b q ⟨dst,op,type,pos,after,some (j,want)⟩ K T h⟩ ⟨jI P ops (jb T dst (.v undef)) h q.2.2/\K (jb T dst (.v undef)) h⟩:=id rfl
theorem Vra{g:Option (Nat × Bool)}(a:vU op=true):WS P ops b q ⟨dst,op,type,pos,after,g⟩ K T h= @jGa (jG P T op) h (Vpa b q.2.1) ⟨λx h'=>K (jb T dst x) h'⟩:=by
 unfold WS;rw[if_pos a]
theorem YPa{g:Option (Nat × Bool)}(a:vU op=false):WS P ops b q ⟨dst,op,type,pos,after,g⟩ K T h=z8a P T h ⟨dst,op,type,pos,after,g⟩ (λT h=>jI P ops T h q.2.2/\K T h):=by
 unfold WS;rw[if_neg];rw[a];simp
theorem xWa{ob:Ob}{mk:Nat->AV}{i:Nat}{k:AV->List Ob->Prop}: @jGa (some (ob,mk)) h i ⟨k⟩=(h[i]? =some .res/\k (mk i) (h.set i ob)):=id rfl
theorem JVa{a c s:Nat}:Vpa (a+c) s=a+(c+s):=Nat.add_assoc a c s
theorem JWa{α:Type}{l:List α}{s:Nat}:Vpa l.length s=l.length+s:=id rfl
theorem jHa:jI P ops T h []=True:=id rfl
theorem qaa{l:Nat}{r:List Nat}:jI P ops T h (l::r)=(y7 P ops T h l/\jI P ops T h r):=id rfl
theorem ZKa{l:Nat}:y7 P ops T h l=(match ops[l]? with
 | some o=>match o.dst with
   | some d=>Qt P ops T h o=some (T d)
   | none=>False
 | none=>False):=id rfl
theorem ZLa:Qt P ops T h ⟨dst,op,type,pos,after,none⟩=(qf P T h op).map (·.1):=id rfl
def JXa(t:AV)(want:Bool)(x:Option AV):Option AV:=match t with
 | .v (.bool b)=>if b=want then x else some (.v undef)
 | .v (.tuple _)=>some (.v undef)
 | _=>none
theorem ZMa{j:Nat}{want:Bool}:Qt P ops T h ⟨dst,op,type,pos,after,some (j,want)⟩=JXa (yL ops j T) want ((qf P T h op).map (·.1)):=by
 unfold Qt yL
 simp only
 cases a:(ops[j]?).bind (·.dst) with
 | none=>rfl
 | some d=>
   simp only
   generalize T d=t
   unfold JXa
   rfl
theorem YQa{b want:Bool}{x:Option AV}:JXa (.v (.bool b)) want x=if b=want then x else some (.v undef):=id rfl
theorem YRa{vs:Array Value}{want:Bool}{x:Option AV}:JXa (.v (.tuple vs)) want x=some (.v undef):=id rfl
theorem vUa{t:TypeId}:vU (.alloc t)=true:=id rfl
theorem JYa{t:TypeId}{x:Operand}:vU (.box t x)=true:=id rfl
theorem Vsa{t:TypeId}{n:Nat}{a:Array (Nat × Operand)}:vU (.buildSlice t n a)=true:=id rfl
theorem Vta{t:TypeId}{x y:Operand}:vU (.makeSlice t x y)=true:=id rfl
theorem Vua{t:TypeId}{r:Option Operand}:vU (.makeMap t r)=true:=id rfl
theorem ZNa{x:Operand}:vU (.move x)=false:=id rfl
theorem xXa{x:Operand}:vU (.assign x)=false:=id rfl
theorem ZOa{x y z:Operand}:vU (.pick x y z)=false:=id rfl
theorem vVa{t:TypeId}{a:Array (Nat × Operand)}:vU (.build t a)=false:=id rfl
theorem ZPa{t:TypeId}{x:Operand}:vU (.load t x)=false:=id rfl
theorem vWa{t:TypeId}{x y:Operand}:vU (.store t x y)=false:=id rfl
theorem qba{x:Operand}:vU (.nilCheck x)=false:=id rfl
theorem vXa{b:BinOp}{t u:TypeId}{x y:Operand}:vU (.binOp b t x y u)=false:=id rfl
theorem ZQa{b:UnOp}{t:TypeId}{x:Operand}:vU (.unOp b t x)=false:=id rfl
theorem jIa{t u:TypeId}{x:Operand}:vU (.convert t u x)=false:=id rfl
theorem qca{f:Fn}{aZ bs:Array Operand}:vU (.makeFunc f aZ bs)=false:=id rfl
theorem YJ{t:TypeId}{x:Operand}{n:Nat}:vU (.fieldAddr t x n)=false:=id rfl
theorem vYa{t:TypeId}{x:Operand}{n:Nat}:vU (.field t x n)=false:=id rfl
theorem YK{t:TypeId}{x y:Operand}:vU (.indexAddr t x y)=false:=id rfl
theorem vZa{t:TypeId}{x y:Operand}:vU (.index t x y)=false:=id rfl
theorem v0a{t:TypeId}{x:Operand}{l m k:Option Operand}:vU (.slice t x l m k)=false:=id rfl
theorem xYa{t:TypeId}{x y z:Operand}:vU (.insert t x y z)=false:=id rfl
theorem xZa{t:TypeId}{x y:Operand}{o:Bool}:vU (.lookup t x y o)=false:=id rfl
theorem jJa{x:Operand}{n:Nat}:vU (.extract x n)=false:=id rfl
theorem ZRa{c:Call}:vU (.call c)=false:=id rfl
theorem YSa{t:TypeId}{x y:Operand}:q9 (.makeSlice t x y)=none:=id rfl
theorem YTa{t:TypeId}{r:Option Operand}:q9 (.makeMap t r)=none:=id rfl
theorem ZSa{t:TypeId}{x:Operand}{n:Nat}:q9 (.field t x n)=none:=id rfl
theorem ZTa{t:TypeId}{x y:Operand}:q9 (.index t x y)=none:=id rfl
theorem ZUa{t:TypeId}{x:Operand}{l m k:Option Operand}:q9 (.slice t x l m k)=none:=id rfl
theorem v1a{t:TypeId}{x y z:Operand}:q9 (.insert t x y z)=none:=id rfl
theorem v2a{t:TypeId}{x y:Operand}{o:Bool}:q9 (.lookup t x y o)=none:=id rfl
end
theorem zO{c:Code}(a:okC N c=true)(I:Nat->Env->List Ob->Prop)(n:Nat)(h0:I n T h)
  (round:∀n T h,I n T h->wpC P N B c (yQ (λb h'=>∃n',n'<n/\I n' b h') Q) T h): @Z6 P N B ⟨(.loop c,Q)⟩ T h:=
 xHa I n h0 λn T h k=>qD c a (round n T h k)
def YUa(P:Program)(N:Nat)(B:Bs)(n:Nat)[x:Held (Code × xR)](T:Env)(h:List Ob):Prop:=
 ∀(φ:Nat->Ob),Upto φ h.length->∀(w:World) (g:Gh) (a:Act),Rel N B w g (fill φ h) a T->Code.rounds P x.it.1 (λe c w'=>∃b h',x.it.2 e b h'/\Aft N B φ w g h b h' c w') n a w
theorem Wt{c:Code}{Q Q':Exit->Act->World->Prop}(b:∀e a w,Q e a w->Q' e a w):∀(n:Nat) {a:Act} {w:World},Code.rounds P c Q n a w->Code.rounds P c Q' n a w
 | 0,_,_,k=>k
 | n+1,a,w,k=>by
   rw[rounds_succ] at k⊢
   refine wp_mono k λe d w' q=>?_
   cases e<;>first
    | exact Wt b n q
    | exact b _ _ _ q
theorem yy{c:Code}(n:Nat)(k: @YUa P N B n ⟨(c,Q)⟩ T h): @Z6 P N B ⟨(.loop c,Q)⟩ T h:=λφ b w g a r=>wp_loop_rounds n (k φ b w g a r)
theorem xz{c:Code}{n:Nat}(f:okC N c=true)(k:wpC P N B c (yQ (λb h'=> @YUa P N B n ⟨(c,Q)⟩ b h') Q) T h): @YUa P N B (n+1) ⟨(c,Q)⟩ T h:=λφ i w g a r=>by
 rw[rounds_succ]
 refine wp_mono (qD c f k φ i w g a r) λe p w' ⟨b,h',j,d⟩=>?_
 cases e with
 | normal=>
   have q:=d.len
   obtain⟨g',t,u,l⟩:=d
   exact Wt (λ_ _ _ ⟨o,m,v,s⟩=>⟨o,m,v,s.trans t l⟩) n (j φ (i.mono q) w' g' p u)
 | _=>exact⟨b,h',j,d⟩
theorem zj{f:FuncId}(fn:Func){c:Code}{aZ:List AV}{R:AV->List Ob->Prop}(rs:List ResultVar)(N:Nat)(i:P.funcs[f]? =some fn)(e:fn.body=some c)(j:fn.ntmps=N)(a:fn.results.toList=rs)(d:aZ.length.ble N=true)(b:Yq P f=true)(g:okC N c=true)(hex:∃r h',R r h'/\ResK h h')
  (k:∀B,wpC P N B c (vCa P rs h R) (nth aZ) h):ACalls P f aZ h R:=jM i e j a (qp d) b hex λB=>qD c g (k B)
end
theorem Ypa{x:Value}:AV.one (.v x)=x.oneCell':=id rfl
theorem YVa{e:Nat}{xs:List (List AV)}:AV.one (.sl e xs)=true:=id rfl
theorem YWa{i s:Nat}:AV.one (.tl i s)=true:=id rfl
theorem Vva{i s:Nat}:AV.one (.ptr i s)=true:=id rfl
theorem YXa{a:AV}{e i k:Nat}:AV.one (.ep a e i k)=true:=id rfl
theorem YYa:AV.one .em=true:=id rfl
theorem YZa{a:AV}{e i n:Nat}:AV.one (.vw a e i n)=true:=id rfl
theorem JZa:AV.cells .em=some [.em]:=id rfl
theorem J0a{a:AV}{e i n:Nat}:AV.cells (.vw a e i n)=some [.vw a e i n]:=id rfl
theorem Y0a{i:Nat}:AV.one (.mp i)=true:=id rfl
theorem J1a{i:Nat}:AV.cells (.mp i)=some [.mp i]:=id rfl
theorem Y1a{f:Fn}{a b:List AV}:AV.one (.fn f a b)=true:=id rfl
theorem J2a{cs:List AV}:AV.cells (.ag cs)=if cs.all AV.one then some cs else none:=id rfl
theorem yoa{x:Value}:AV.cells (.v x)=if x.oneCell' then some [.v x] else none:=id rfl
theorem J3a{e:Nat}{xs:List (List AV)}:AV.cells (.sl e xs)=some [.sl e xs]:=id rfl
theorem J4a{i s:Nat}:AV.cells (.tl i s)=some [.tl i s]:=id rfl
theorem ZVa{i s:Nat}:AV.cells (.ptr i s)=some [.ptr i s]:=id rfl
theorem J5a{a:AV}{e i k:Nat}:AV.cells (.ep a e i k)=some [.ep a e i k]:=id rfl
theorem J6a{f:Fn}{a b:List AV}:AV.cells (.fn f a b)=some [.fn f a b]:=id rfl
def qCa(o:Option Ob)(st:Nat):Option (List (List AV)):=match o with
 | some (.row _ _ xs s)=>if s=st then some xs else none
 | _=>none
def eTl(o:Option Ob):Option Nat:=match o with
 | some (.row _ e _ _)=>some e
 | _=>none
section
variable {h h':List Ob}
theorem ZWa{e:Nat}{xs:List (List AV)}:qc h (.sl e xs)=some xs:=id rfl
theorem ZXa:qc h .em=some []:=id rfl
theorem vC{a:AV}{e i n:Nat}:qc h (.vw a e i n)=(qc h a).bind λxs=>if i+n<=xs.length/\(n=0∨eOf h a=some e) then some ((xs.drop i).take n) else none:=id rfl
theorem Q1{a:AV}{e i n:Nat}:eOf h (.vw a e i n)=(eOf h a).bind λb=>if b=e then some e else none:=id rfl
theorem v3a{k:Nat}:qc h (.v (.slice none 0 k))=some []:=id rfl
theorem q8{a st:Nat}:qc h (.tl a st)=qCa h[a]? st:=id rfl
theorem kV{ty e s st:Nat}{xs:List (List AV)}:qCa (some (.row ty e xs s)) st=if s=st then some xs else none:=id rfl
theorem Y2a{e:Nat}{xs:List (List AV)}:eOf h (.sl e xs)=some e:=id rfl
theorem jO{a st:Nat}:eOf h (.tl a st)=eTl h[a]? :=id rfl
theorem wg{ty e s:Nat}{xs:List (List AV)}:eTl (some (.row ty e xs s))=some e:=id rfl
theorem x0a{x:Value}:qc h (.v x)=qc h' (.v x):=by
 unfold qc
 cases x<;>first
  | rfl
  | (rename_i a n k;cases a<;>cases n<;>rfl)
structure SlOf (h:List Ob) (a:AV) (e:Nat) (xs:List (List AV)):Prop where
 rows:qc h a=some xs
 ee:xs≠[]->eOf h a=some e
theorem jKa{L:List Ob}:∀(a:AV) {e:Nat},eOf h a=some e->eOf (h++L) a=some e
 | .sl _ _,_,b=>b
 | .tl id st,e,b=>by
   simp only[eOf] at b⊢
   split at b
   ·rename_i ty j ys s d
    rw[ze d]
    exact b
   ·cases b
 | .vw a f i n,e,b=>by
   simp only[eOf] at b⊢
   cases c:eOf h a with
   | none=>rw[c] at b;cases b
   | some g=>rw[c] at b;rw[jKa a c];exact b
 | .v _,_,b | .em,_,b | .ptr _ _,_,b | .ep _ _ _ _,_,b | .mp _,_,b | .ag _,_,b | .tup _,_,b | .fn _ _ _,_,b | .bad,_,b=>by cases b
theorem YL{L:List Ob}:∀(a:AV) {xs:List (List AV)},qc h a=some xs->qc (h++L) a=some xs
 | .sl _ _,_,b=>b
 | .em,_,b=>b
 | .tl id st,xs,b=>by
   simp only[qc] at b⊢
   split at b
   ·rename_i ty g ys s f
    rw[ze f]
    exact b
   ·cases b
 | .vw a e i n,xs,b=>by
   simp only[qc] at b⊢
   cases c:qc h a with
   | none=>rw[c] at b;cases b
   | some ys=>
     rw[c] at b
     rw[YL a c]
     simp only[Option.bind_some] at b⊢
     split at b
     ·rename_i d
      rw[if_pos ⟨d.1,d.2.imp id (jKa a)⟩]
      exact b
     ·cases b
 | .v x,xs,b=>by rw[<-x0a (h:=h)];exact b
 | .ptr _ _,_,b | .ep _ _ _ _,_,b | .mp _,_,b | .ag _,_,b | .tup _,_,b | .fn _ _ _,_,b | .bad,_,b=>by cases b
theorem SlOf.app{h:List Ob}{a:AV}{e:Nat}{xs:List (List AV)}(s:SlOf h a e xs)(L:List Ob):SlOf (h++L) a e xs:=⟨YL a s.rows,λk=>jKa a (s.ee k)⟩
theorem v4a:∀ {a:AV} {xs:List (List AV)},qc h a=some xs->AV.one a=true
 | .sl _ _,_,_ | .em,_,_ | .tl _ _,_,_ | .vw _ _ _ _,_,_=>rfl
 | .v x,xs,b=>by
   unfold qc at b
   split at b<;>rename_i heq<;>first
    | (cases heq;done)
    | (injection heq with heq;subst heq;rfl)
    | cases b
 | .ptr _ _,_,b | .ep _ _ _ _,_,b | .mp _,_,b | .ag _,_,b | .tup _,_,b | .fn _ _ _,_,b | .bad,_,b=>by cases b
theorem SlOf.one{h:List Ob}{a:AV}{e:Nat}{xs:List (List AV)}(s:SlOf h a e xs):AV.one a=true:=v4a s.rows
theorem SlOf.cells{h:List Ob}{a:AV}{e:Nat}{xs:List (List AV)}(s:SlOf h a e xs):AV.cells a=some [a]:=by
 have c:=s.one
 obtain⟨b,_⟩:=s
 cases a with
 | v x=>rw[yoa,if_pos (by simpa [Ypa] using c)]
 | ag cs=>cases b
 | tup cs=>cases b
 | bad=>cases b
 | _=>rfl
theorem SlOf.at{h:List Ob}{a:AV}{e:Nat}{xs:List (List AV)}(s:SlOf h a e xs){i:Nat}(hi:i<xs.length):eOf h a=some e:=s.ee λb=>by rw[b] at hi;simp at hi
end
theorem wl0:IntKind.wrap .i64 0=0:=by decide
theorem wl1:IntKind.wrap .i64 1=1:=by decide
theorem wl2:IntKind.wrap .i64 2=2:=by decide
theorem wl3:IntKind.wrap .i64 3=3:=by decide
theorem wl4:IntKind.wrap .i64 4=4:=by decide
theorem wl5:IntKind.wrap .i64 5=5:=by decide
theorem wl6:IntKind.wrap .i64 6=6:=by decide
theorem wl7:IntKind.wrap .i64 7=7:=by decide
theorem wl8:IntKind.wrap .i64 8=8:=by decide
theorem wl9:IntKind.wrap .i64 9=9:=by decide
theorem xxb:IntKind.wrap .i64 10=10:=by decide
theorem xyb:IntKind.wrap .i64 11=11:=by decide
theorem xzb:IntKind.wrap .i64 12=12:=by decide
theorem xAb:IntKind.wrap .i64 13=13:=by decide
theorem xBb:IntKind.wrap .i64 14=14:=by decide
theorem xCb:IntKind.wrap .i64 15=15:=by decide
theorem xDb:IntKind.wrap .i64 16=16:=by decide
theorem xEb:IntKind.wrap .i64 17=17:=by decide
theorem xFb:IntKind.wrap .i64 18=18:=by decide
theorem xGb:IntKind.wrap .i64 19=19:=by decide
theorem xHb:IntKind.wrap .i64 20=20:=by decide
theorem wlm:IntKind.wrap .i64 (-1)= -1:=by decide
attribute [go_sem] wl0 wl1 wl2 wl3 wl4 wl5 wl6 wl7 wl8 wl9 xxb xyb xzb xAb xBb xCb xDb xEb xFb xGb xHb wlm
theorem J7a{x:Operand}:q9 (.move x)=none:=id rfl
theorem v5a{x:Operand}:q9 (.assign x)=none:=id rfl
theorem J8a{x:Operand}{y:Operand}{z:Operand}:q9 (.pick x y z)=none:=id rfl
theorem ZYa{t:TypeId}:q9 (.alloc t)=none:=id rfl
theorem Vwa{t:TypeId}{x:Operand}:q9 (.box t x)=none:=id rfl
theorem ZZa{t:TypeId}{a:Array (Nat × Operand)}:q9 (.build t a)=none:=id rfl
theorem YM{t:TypeId}{n:Nat}{a:Array (Nat × Operand)}:q9 (.buildSlice t n a)=none:=id rfl
theorem J9a{t:TypeId}{x:Operand}:q9 (.load t x)=none:=id rfl
theorem Z0a{t:TypeId}{x:Operand}{y:Operand}:q9 (.store t x y)=none:=id rfl
theorem jLa{x:Operand}:q9 (.nilCheck x)=none:=id rfl
theorem Z1a{b:BinOp}{t:TypeId}{x:Operand}{y:Operand}{u:TypeId}:q9 (.binOp b t x y u)=none:=id rfl
theorem Xaa{q:UnOp}{t:TypeId}{x:Operand}:q9 (.unOp q t x)=none:=id rfl
theorem x1a{t:TypeId}{u:TypeId}{x:Operand}:q9 (.convert t u x)=none:=id rfl
theorem jMa{f:Fn}{aZ:Array Operand}{bs:Array Operand}:q9 (.makeFunc f aZ bs)=none:=id rfl
theorem qda{t:TypeId}{x:Operand}{n:Nat}:q9 (.fieldAddr t x n)=none:=id rfl
theorem qea{t:TypeId}{x:Operand}{y:Operand}:q9 (.indexAddr t x y)=none:=id rfl
theorem x2a{x:Operand}{n:Nat}:q9 (.extract x n)=none:=id rfl
theorem Xba{b:Builtin}{aZ:Array Operand}{a:Array TypeId}:q9 (.call ⟨.builtin b,aZ,a⟩)=none:=id rfl
theorem vo{b:Bool}(e:(b==false)=false):b=true:=by cases b<;>simp_all
theorem vp{b:Bool}(e:(b==false)=true):b=false:=by cases b<;>simp_all
theorem xN{b:Bool}(e:(b==true)=false):b=false:=by cases b<;>simp_all
theorem xO{b:Bool}(e:(b==true)=true):b=true:=by cases b<;>simp_all
attribute [go_sem] J7a v5a J8a ZYa Vwa ZZa YM J9a Z0a jLa Z1a Xaa x1a jMa qda qea x2a Xba
attribute [go_sem] Vqa JUa ZJa vSa vTa Vra YPa xWa JVa JWa jHa qaa ZKa ZLa ZMa YQa YRa vUa JYa Vsa Vta Vua ZNa xXa ZOa vVa ZPa vWa qba vXa ZQa jIa qca YJ vYa YK vZa v0a xYa xZa jJa ZRa YSa YTa ZSa ZTa ZUa v1a v2a
attribute [go_sem] xKa Vfa Vga Zza Jxa vFa Jya Jza JAa Vea Zya Vha JBa JCa Yz ZAa KQ vGa JDa ZBa JEa Via JFa JGa jza Vja Vka JHa JIa YA qYb YNa YOa Zxa vDa
 yL ev evl evs ofV nth cut lay yP X6 Zw Jv xra Ypa YYa YZa Y0a JZa J0a J1a ZXa vC Q1 YVa YWa Vva YXa Y1a J2a yoa J3a J4a ZVa J5a J6a part Jw Zx ZWa v3a q8 kV Y2a jO wg vua QW Jea yea vsa vta xua Xo xV Yi X7 YIa jta vl vN kN yfa jG JD xva Jx vm vE kR xC xh Z2 xsa xta kL yq
 qf Qr VE y6 Kd K6a Vda Jta Jua Jva Jwa Value.oneCell'
attribute [go_sem] List.head?_cons eq_self zJ Option.getD_some Option.isSome_some if_true if_false Option.map_some Option.map_none Option.bind_some Option.bind_none List.map_cons List.map_nil List.length_cons List.length_nil zg List.cons_append List.nil_append zM
 List.set_cons_zero List.set_cons_succ List.getElem?_cons_zero List.getElem?_cons_succ List.getElem?_nil List.all_cons List.all_nil Bool.and_true Bool.and_self Bool.true_and Bool.false_eq_true and_self and_true true_and ne_eq not_false_eq_true
 List.take_succ_cons List.take_zero List.drop_succ_cons List.drop_zero beq_self_eq_true decide_true decide_false Nat.zero_add Nat.add_zero Bool.not_true Bool.not_false List.getElem?_toArray Bool.true_beq Bool.false_beq Bool.false_and Bool.and_false Bool.true_or Bool.or_true Bool.false_or Bool.or_false
attribute [go_sem] Nat.reduceAdd Nat.reduceMul Nat.reduceSub Nat.reduceLT Nat.reduceLeDiff Nat.reduceEqDiff reduceIte reduceCtorEq Int.reduceEq Int.reduceLT Int.reduceLE Int.reduceBEq Int.reduceToNat Int.reduceAdd Int.cast_ofNat_Int
