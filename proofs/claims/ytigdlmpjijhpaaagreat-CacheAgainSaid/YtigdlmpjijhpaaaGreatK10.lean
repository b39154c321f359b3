import Derived.Test.YtigdlmpjijhpaaaGreatKA
import Derived.Test.YtigdlmpjijhpaaaGreatK09
import Derived.LoopN
set_option linter.all false
namespace Go.Proofs.YtigdlmpjijhpaaaGreat.Ax
open Go Go.RowKit
def VBa(x:Option Oper)[k:Held (Oper->Prop)]:Prop:=match x with
 | some o=>k.it o
 | none=>False
def VCa(b s:Nat):Nat:=b+s
def jKa(x:Option (Ob × (Nat->AV)))(h:List Ob)(id:Nat)[k:Held (AV->List Ob->Prop)]:Prop:=match x with
 | some (ob,mk)=>h[id]? =some .res/\k.it (mk id) (h.set id ob)
 | none=>False
def vX:Op->Bool
 | .alloc .. | .box .. | .buildSlice .. | .makeSlice .. | .makeMap .. =>true
 | _=>false
theorem xXa(op:Op):vX op=true↔cls op=3:=by
 cases op
 case call c=>
  obtain⟨callee,args,a⟩:=c
  cases callee with
  | builtin b=>cases b<;>simp[vX,cls]
  | value x=>simp[vX,cls]
  | invoke r m=>simp[vX,cls]
 case binOp op t y z u=>simp only[vX,cls];split<;>simp
 all_goals simp[vX,cls]
def WV(P:Program)(ops:Array Oper)(b:Nat)(q:Ent)(o:Oper)(K:Env->List Ob->Prop)(T:Env)(h:List Ob):Prop:=
 if vX o.op then @jKa (jG P T o.op) h (VCa b q.2.1) ⟨λx h'=>K (jc T o.dst x) h'⟩ else qba P T h o (λT h=>jJ P ops T h q.2.2/\K T h)
def YK(P:Program)(ops:Array Oper)(b:Nat)(q:Ent)(K:Env->List Ob->Prop)(T:Env)(h:List Ob)(o:Oper):Prop:=match o.guard with
 | none=>WV P ops b q o K T h
 | some (j,want)=> @wW (yN ops j T) want ⟨WV P ops b q o K T h⟩ ⟨jJ P ops (jc T o.dst (.v undef)) h q.2.2/\K (jc T o.dst (.v undef)) h⟩
def wpQ(P:Program)(ops:Array Oper)(b:Nat)(K:Env->List Ob->Prop):List Ent->Env->List Ob->Prop
 | [],T,h=>K T h
 | q::r,T,h=> @VBa ops[q.1]? ⟨YK P ops b q (wpQ P ops b K r) T h⟩
section
variable {P:Program} {N:Nat} {B:Bs} {ops:Array Oper} {T:Env} {h:List Ob} {Q Q':xV}
theorem qFa{o:Oper}{K K':Env->List Ob->Prop}(k:Yu P T h o K)(b:∀T h,K T h->K' T h):Yu P T h o K':=by
 unfold Yu at k⊢
 split
 ·rename_i l ar a
  rw[a] at k
  exact JQ k λh' q=>b _ _ q
 ·rename_i a
  rw[a] at k
  exact Xv k b
theorem xYa{K:Env->List Ob->Prop}:∀(l:List Oper) {T:Env} {h:List Ob},wpR P ops K l T h->wpA P ops K l T h
 | [],_,_,k=>k
 | o::r,T,h,k=>by
   have a:∀T h,wpR P ops K r T h->wpA P ops K r T h:=λT h=>xYa r
   unfold wpR at k
   unfold wpA
   cases f:o.guard with
   | none=>simp only[f] at k ⊢;exact qFa (JTa k) a
   | some q=>
     obtain⟨j,want⟩:=q
     simp only[f,yN] at k⊢
     cases g:(ops[j]?).bind (·.dst) with
     | none=>simp only[g,wW] at k
     | some d=>
       simp only[g] at k⊢
       unfold wW at k
       split at k
       ·rename_i b c
        rw[c]
        refine⟨λe=>qFa (JTa (k.1 (by simp[e]))) a,λe=>a _ _ (k.2 (by simp[e]))⟩
       ·rename_i vs c
        rw[c]
        exact a _ _ k
       ·exact k.elim
theorem qD:∀(c:Code),okC N c=true->∀ {Q:xV} {T:Env} {h:List Ob},wpC P N B c Q T h->AWp P N B c Q T h:=by
 intro c
 induction c with
 | skip=>intro _ Q T h k;exact Jua k
 | label l=>intro _ Q T h k;exact ZAa k
 | seq a b j i=>
   intro g Q T h k
   simp only[okC,zq] at g
   refine Z6 ((j g.1 k).mono λe T h q=>?_)
   cases e<;>first
    | exact i g.2 q
    | exact q
 | region id ops d=>
   intro g Q T h k
   cases d with
   | false=>exact vHa g (xYa _ k)
   | true=>exact k
 | cond x a b j i=>
   intro g Q T h k
   simp only[okC,zq] at g
   unfold wpC Yy at k
   split at k
   ·rename_i t n
    exact Jwa n (λe=>j g.1 (k.1 e)) (λe=>i g.2 (k.2 e))
   ·exact k.elim
 | block id c m=>intro g Q T h k;exact VF (m g k)
 | loop c m=>intro _ Q T h k;exact k
 | exit id=>intro _ Q T h k;exact Jva k
 | ret=>intro _ Q T h k;exact jCa k
 | rangeFunc f p a b _ _=>intro _ Q T h k;exact k
 | scope b _=>intro _ Q T h k;exact k
 | goto l=>intro _ Q T h k;exact k
 | refuse w=>intro _ Q T h k;exact k
theorem J3a{b:Nat}{K:Env->List Ob->Prop}:∀(l:List Ent) {T:Env} {h:List Ob},wpQ P ops b K l T h->wpE P ops b K l T h
 | [],_,_,k=>k
 | q::r,T,h,k=>by
   have f:∀T h,wpQ P ops b K r T h->wpE P ops b K r T h:=λT h=>J3a r
   unfold wpQ VBa at k
   unfold wpE
   split at k
   ·rename_i o t
    rw[t]
    simp only
    have k:YK P ops b q (wpQ P ops b K r) T h o:=k
    by_cases m:cls o.op=3
    ·have n:=(xXa o.op).2 m
     have a:WV P ops b q o (wpQ P ops b K r) T h->JR P (b+q.2.1) o (wpE P ops b K r) T h:=λk=>by
      unfold WV at k
      rw[if_pos n] at k
      unfold jKa at k
      unfold JR
      split at k
      ·rename_i ob mk s;rw[s];exact⟨k.1,f _ _ k.2⟩
      ·exact k.elim
     rw[wj m]
     unfold YD kW
     unfold YK at k
     cases i:o.guard with
     | none=>simp only[i] at k ⊢;exact a k
     | some p=>
       obtain⟨j,want⟩:=p
       simp only[i,yN] at k⊢
       cases g:(ops[j]?).bind (·.dst) with
       | none=>simp only[g,wW] at k
       | some d=>
         simp only[g] at k⊢
         unfold wW at k
         split at k
         ·rename_i b c
          rw[c]
          exact⟨λe=>a (k.1 (by simp[e])),λe=>f _ _ (k.2 (by simp[e])).2⟩
         ·rename_i vs c
          rw[c]
          exact f _ _ k.2
         ·exact k.elim
    ·have n:¬ vX o.op=true:=λh=>m ((xXa o.op).1 h)
     have a:WV P ops b q o (wpQ P ops b K r) T h->yl P T h o (λT h=>jJ P ops T h q.2.2/\wpE P ops b K r T h):=λk=>by
      unfold WV at k
      rw[if_neg n] at k
      exact Xv (jEa k) λT h ⟨k1,k2⟩=>⟨k1,f _ _ k2⟩
     rw[wX m]
     unfold vQ kW JUa
     unfold YK at k
     cases i:o.guard with
     | none=>simp only[i] at k ⊢;exact a k
     | some p=>
       obtain⟨j,want⟩:=p
       simp only[i,yN] at k⊢
       cases g:(ops[j]?).bind (·.dst) with
       | none=>simp only[g,wW] at k
       | some d=>
         simp only[g] at k⊢
         unfold wW at k
         split at k
         ·rename_i b c
          rw[c]
          exact⟨λe=>a (k.1 (by simp[e])),λe=>let q:=k.2 (by simp[e]);⟨q.1,f _ _ q.2⟩⟩
         ·rename_i vs c
          rw[c]
          exact⟨k.1,f _ _ k.2⟩
         ·exact k.elim
   ·exact k.elim
theorem zL{id:Nat}(e:P.follows .mixedOrders=true)(L:List Ob)(k:Nat)(a:List Ent)(c:L=List.replicate k .res)(d:ops.toList.all (vv N)=true)(b:YE ops k a=true)(q:wpQ P ops h.length (Q .normal) a T (h++L)): @Z7 P N B ⟨(.region id ops true,Q)⟩ T h:=
 J2a e k a d b (J3a _ (c▸q))
section
variable {b:Nat} {K:Env->List Ob->Prop} {q:Ent} {o:Oper} {dst:Option Tmp} {op:Op} {type:TypeId} {pos:String} {after:Array Edge}
theorem VDa:wpQ P ops b K [] T h=K T h:=id rfl
theorem J4a{r:List Ent}:wpQ P ops b K (q::r) T h= @VBa ops[q.1]? ⟨YK P ops b q (wpQ P ops b K r) T h⟩:=id rfl
theorem ZQa{k:Oper->Prop}: @VBa (some o) ⟨k⟩=k o:=id rfl
theorem vYa:YK P ops b q K T h ⟨dst,op,type,pos,after,none⟩=WV P ops b q ⟨dst,op,type,pos,after,none⟩ K T h:=id rfl
theorem vZa{j:Nat}{want:Bool}:YK P ops b q K T h ⟨dst,op,type,pos,after,some (j,want)⟩= @wW (yN ops j T) want ⟨WV P ops b q ⟨dst,op,type,pos,after,some (j,want)⟩ K T h⟩ ⟨jJ P ops (jc T dst (.v undef)) h q.2.2/\K (jc T dst (.v undef)) h⟩:=id rfl
theorem VEa{g:Option (Nat × Bool)}(a:vX op=true):WV P ops b q ⟨dst,op,type,pos,after,g⟩ K T h= @jKa (jG P T op) h (VCa b q.2.1) ⟨λx h'=>K (jc T dst x) h'⟩:=by
 unfold WV;rw[if_pos a]
theorem Y2a{g:Option (Nat × Bool)}(a:vX op=false):WV P ops b q ⟨dst,op,type,pos,after,g⟩ K T h=qba P T h ⟨dst,op,type,pos,after,g⟩ (λT h=>jJ P ops T h q.2.2/\K T h):=by
 unfold WV;rw[if_neg];rw[a];simp
theorem xZa{ob:Ob}{mk:Nat->AV}{i:Nat}{k:AV->List Ob->Prop}: @jKa (some (ob,mk)) h i ⟨k⟩=(h[i]? =some .res/\k (mk i) (h.set i ob)):=id rfl
theorem J5a{a c s:Nat}:VCa (a+c) s=a+(c+s):=Nat.add_assoc a c s
theorem J6a{α:Type}{l:List α}{s:Nat}:VCa l.length s=l.length+s:=id rfl
theorem jLa:jJ P ops T h []=True:=id rfl
theorem qda{l:Nat}{r:List Nat}:jJ P ops T h (l::r)=(y9 P ops T h l/\jJ P ops T h r):=id rfl
theorem ZRa{l:Nat}:y9 P ops T h l=(match ops[l]? with
 | some o=>match o.dst with
   | some d=>Qw P ops T h o=some (T d)
   | none=>False
 | none=>False):=id rfl
theorem ZSa:Qw P ops T h ⟨dst,op,type,pos,after,none⟩=(qh P T h op).map (·.1):=id rfl
def J7a(t:AV)(want:Bool)(x:Option AV):Option AV:=match t with
 | .v (.bool b)=>if b=want then x else some (.v undef)
 | .v (.tuple _)=>some (.v undef)
 | _=>none
theorem ZTa{j:Nat}{want:Bool}:Qw P ops T h ⟨dst,op,type,pos,after,some (j,want)⟩=J7a (yN ops j T) want ((qh P T h op).map (·.1)):=by
 unfold Qw yN
 simp only
 cases a:(ops[j]?).bind (·.dst) with
 | none=>rfl
 | some d=>
   simp only
   generalize T d=t
   unfold J7a
   rfl
theorem Y3a{b want:Bool}{x:Option AV}:J7a (.v (.bool b)) want x=if b=want then x else some (.v undef):=id rfl
theorem Y4a{vs:Array Value}{want:Bool}{x:Option AV}:J7a (.v (.tuple vs)) want x=some (.v undef):=id rfl
theorem v0a{t:TypeId}:vX (.alloc t)=true:=id rfl
theorem J8a{t:TypeId}{x:Operand}:vX (.box t x)=true:=id rfl
theorem VFa{t:TypeId}{n:Nat}{a:Array (Nat × Operand)}:vX (.buildSlice t n a)=true:=id rfl
theorem VGa{t:TypeId}{x y:Operand}:vX (.makeSlice t x y)=true:=id rfl
theorem VHa{t:TypeId}{r:Option Operand}:vX (.makeMap t r)=true:=id rfl
theorem ZUa{x:Operand}:vX (.move x)=false:=id rfl
theorem x0a{x:Operand}:vX (.assign x)=false:=id rfl
theorem ZVa{x y z:Operand}:vX (.pick x y z)=false:=id rfl
theorem v1a{t:TypeId}{a:Array (Nat × Operand)}:vX (.build t a)=false:=id rfl
theorem ZWa{t:TypeId}{x:Operand}:vX (.load t x)=false:=id rfl
theorem v2a{t:TypeId}{x y:Operand}:vX (.store t x y)=false:=id rfl
theorem qea{x:Operand}:vX (.nilCheck x)=false:=id rfl
theorem v3a{b:BinOp}{t u:TypeId}{x y:Operand}:vX (.binOp b t x y u)=false:=id rfl
theorem ZXa{b:UnOp}{t:TypeId}{x:Operand}:vX (.unOp b t x)=false:=id rfl
theorem jMa{t u:TypeId}{x:Operand}:vX (.convert t u x)=false:=id rfl
theorem qfa{f:Fn}{aZ bs:Array Operand}:vX (.makeFunc f aZ bs)=false:=id rfl
theorem YL{t:TypeId}{x:Operand}{n:Nat}:vX (.fieldAddr t x n)=false:=id rfl
theorem v4a{t:TypeId}{x:Operand}{n:Nat}:vX (.field t x n)=false:=id rfl
theorem YM{t:TypeId}{x y:Operand}:vX (.indexAddr t x y)=false:=id rfl
theorem v5a{t:TypeId}{x y:Operand}:vX (.index t x y)=false:=id rfl
theorem v6a{t:TypeId}{x:Operand}{l m k:Option Operand}:vX (.slice t x l m k)=false:=id rfl
theorem x1a{t:TypeId}{x y z:Operand}:vX (.insert t x y z)=false:=id rfl
theorem x2a{t:TypeId}{x y:Operand}{o:Bool}:vX (.lookup t x y o)=false:=id rfl
theorem jNa{x:Operand}{n:Nat}:vX (.extract x n)=false:=id rfl
theorem ZYa{c:Call}:vX (.call c)=false:=id rfl
theorem Y5a{t:TypeId}{x y:Operand}:q8 (.makeSlice t x y)=none:=id rfl
theorem Y6a{t:TypeId}{r:Option Operand}:q8 (.makeMap t r)=none:=id rfl
theorem ZZa{t:TypeId}{x:Operand}{n:Nat}:q8 (.field t x n)=none:=id rfl
theorem Z0a{t:TypeId}{x y:Operand}:q8 (.index t x y)=none:=id rfl
theorem Z1a{t:TypeId}{x:Operand}{l m k:Option Operand}:q8 (.slice t x l m k)=none:=id rfl
theorem v7a{t:TypeId}{x y z:Operand}:q8 (.insert t x y z)=none:=id rfl
theorem v8a{t:TypeId}{x y:Operand}{o:Bool}:q8 (.lookup t x y o)=none:=id rfl
end
theorem zI{c:Code}(a:okC N c=true)(I:Nat->Env->List Ob->Prop)(n:Nat)(h0:I n T h)
  (round:∀n T h,I n T h->wpC P N B c (yS (λb h'=>∃n',n'<n/\I n' b h') Q) T h): @Z7 P N B ⟨(.loop c,Q)⟩ T h:=
 xKa I n h0 λn T h k=>qD c a (round n T h k)
def Y7a(P:Program)(N:Nat)(B:Bs)(n:Nat)[x:Held (Code × xV)](T:Env)(h:List Ob):Prop:=
 ∀(φ:Nat->Ob),Upto φ h.length->∀(w:World) (g:Gh) (a:Act),Rel N B w g (fill φ h) a T->Code.rounds P x.it.1 (λe c w'=>∃b h',x.it.2 e b h'/\Aft N B φ w g h b h' c w') n a w
theorem Wv{c:Code}{Q Q':Exit->Act->World->Prop}(b:∀e a w,Q e a w->Q' e a w):∀(n:Nat) {a:Act} {w:World},Code.rounds P c Q n a w->Code.rounds P c Q' n a w
 | 0,_,_,k=>k
 | n+1,a,w,k=>by
   rw[rounds_succ] at k⊢
   refine wp_mono k λe d w' q=>?_
   cases e<;>first
    | exact Wv b n q
    | exact b _ _ _ q
theorem yA{c:Code}(n:Nat)(k: @Y7a P N B n ⟨(c,Q)⟩ T h): @Z7 P N B ⟨(.loop c,Q)⟩ T h:=λφ b w g a r=>wp_loop_rounds n (k φ b w g a r)
theorem xB{c:Code}{n:Nat}(b:okC N c=true)(k:wpC P N B c (yS (λd h'=> @Y7a P N B n ⟨(c,Q)⟩ d h') Q) T h): @Y7a P N B (n+1) ⟨(c,Q)⟩ T h:=λφ j w g a r=>by
 rw[rounds_succ]
 refine wp_mono (qD c b k φ j w g a r) λe p w' ⟨d,h',i,f⟩=>?_
 cases e with
 | normal=>
   have s:=f.len
   obtain⟨g',v,q,t⟩:=f
   exact Wv (λ_ _ _ ⟨o,u,l,m⟩=>⟨o,u,l,m.trans v t⟩) n (i φ (j.mono s) w' g' p q)
 | _=>exact⟨d,h',i,f⟩
theorem zi{f:FuncId}(fn:Func){c:Code}{aZ:List AV}{R:AV->List Ob->Prop}(rs:List ResultVar)(N:Nat)(i:P.funcs[f]? =some fn)(d:fn.body=some c)(e:fn.ntmps=N)(a:fn.results.toList=rs)(j:aZ.length.ble N=true)(b:Ys P f=true)(g:okC N c=true)(hex:∃r h',R r h'/\ResK h h')
  (k:∀B,wpC P N B c (vIa P rs h R) (nth aZ) h):ACalls P f aZ h R:=jN i d e a (qo j) b hex λB=>qD c g (k B)
end
theorem YCa{x:Value}:AV.one (.v x)=x.oneCell':=id rfl
theorem Y8a{e:Nat}{xs:List (List AV)}:AV.one (.sl e xs)=true:=id rfl
theorem Y9a{i s:Nat}:AV.one (.tl i s)=true:=id rfl
theorem VIa{i s:Nat}:AV.one (.ptr i s)=true:=id rfl
theorem zab{a:AV}{e i k:Nat}:AV.one (.ep a e i k)=true:=id rfl
theorem zbb:AV.one .em=true:=id rfl
theorem zcb{a:AV}{e i n:Nat}:AV.one (.vw a e i n)=true:=id rfl
theorem J9a:AV.cells .em=some [.em]:=id rfl
theorem Xaa{a:AV}{e i n:Nat}:AV.cells (.vw a e i n)=some [.vw a e i n]:=id rfl
theorem zdb{i:Nat}:AV.one (.mp i)=true:=id rfl
theorem Xba{i:Nat}:AV.cells (.mp i)=some [.mp i]:=id rfl
theorem zeb{f:Fn}{a b:List AV}:AV.one (.fn f a b)=true:=id rfl
theorem Xca{cs:List AV}:AV.cells (.ag cs)=if cs.all AV.one then some cs else none:=id rfl
theorem yta{x:Value}:AV.cells (.v x)=if x.oneCell' then some [.v x] else none:=id rfl
theorem Xda{e:Nat}{xs:List (List AV)}:AV.cells (.sl e xs)=some [.sl e xs]:=id rfl
theorem Xea{i s:Nat}:AV.cells (.tl i s)=some [.tl i s]:=id rfl
theorem Z2a{i s:Nat}:AV.cells (.ptr i s)=some [.ptr i s]:=id rfl
theorem Xfa{a:AV}{e i k:Nat}:AV.cells (.ep a e i k)=some [.ep a e i k]:=id rfl
theorem Xga{f:Fn}{a b:List AV}:AV.cells (.fn f a b)=some [.fn f a b]:=id rfl
def qGa(o:Option Ob)(st:Nat):Option (List (List AV)):=match o with
 | some (.row _ _ xs s)=>if s=st then some xs else none
 | _=>none
def eTl(o:Option Ob):Option Nat:=match o with
 | some (.row _ e _ _)=>some e
 | _=>none
section
variable {h h':List Ob}
theorem Z3a{e:Nat}{xs:List (List AV)}:qa h (.sl e xs)=some xs:=id rfl
theorem Z4a:qa h .em=some []:=id rfl
theorem vD{a:AV}{e i n:Nat}:qa h (.vw a e i n)=(qa h a).bind λxs=>if i+n<=xs.length/\(n=0∨eOf h a=some e) then some ((xs.drop i).take n) else none:=id rfl
theorem Q3{a:AV}{e i n:Nat}:eOf h (.vw a e i n)=(eOf h a).bind λb=>if b=e then some e else none:=id rfl
theorem v9a{k:Nat}:qa h (.v (.slice none 0 k))=some []:=id rfl
theorem qZ{a st:Nat}:qa h (.tl a st)=qGa h[a]? st:=id rfl
theorem kY{ty e s st:Nat}{xs:List (List AV)}:qGa (some (.row ty e xs s)) st=if s=st then some xs else none:=id rfl
theorem zfb{e:Nat}{xs:List (List AV)}:eOf h (.sl e xs)=some e:=id rfl
theorem jP{a st:Nat}:eOf h (.tl a st)=eTl h[a]? :=id rfl
theorem wl{ty e s:Nat}{xs:List (List AV)}:eTl (some (.row ty e xs s))=some e:=id rfl
theorem x3a{x:Value}:qa h (.v x)=qa h' (.v x):=by
 unfold qa
 cases x<;>first
  | rfl
  | (rename_i a n k;cases a<;>cases n<;>rfl)
structure SlOf (h:List Ob) (a:AV) (e:Nat) (xs:List (List AV)):Prop where
 rows:qa h a=some xs
 ee:xs≠[]->eOf h a=some e
theorem jOa{L:List Ob}:∀(a:AV) {e:Nat},eOf h a=some e->eOf (h++L) a=some e
 | .sl _ _,_,b=>b
 | .tl id st,e,b=>by
   simp only[eOf] at b⊢
   split at b
   ·rename_i ty f ys s d
    rw[ze d]
    exact b
   ·cases b
 | .vw a g i n,e,b=>by
   simp only[eOf] at b⊢
   cases c:eOf h a with
   | none=>rw[c] at b;cases b
   | some j=>rw[c] at b;rw[jOa a c];exact b
 | .v _,_,b | .em,_,b | .ptr _ _,_,b | .ep _ _ _ _,_,b | .mp _,_,b | .ag _,_,b | .tup _,_,b | .fn _ _ _,_,b | .bad,_,b=>by cases b
theorem YN{L:List Ob}:∀(a:AV) {xs:List (List AV)},qa h a=some xs->qa (h++L) a=some xs
 | .sl _ _,_,b=>b
 | .em,_,b=>b
 | .tl id st,xs,b=>by
   simp only[qa] at b⊢
   split at b
   ·rename_i ty g ys s f
    rw[ze f]
    exact b
   ·cases b
 | .vw a e i n,xs,b=>by
   simp only[qa] at b⊢
   cases c:qa h a with
   | none=>rw[c] at b;cases b
   | some ys=>
     rw[c] at b
     rw[YN a c]
     simp only[Option.bind_some] at b⊢
     split at b
     ·rename_i d
      rw[if_pos ⟨d.1,d.2.imp id (jOa a)⟩]
      exact b
     ·cases b
 | .v x,xs,b=>by rw[<-x3a (h:=h)];exact b
 | .ptr _ _,_,b | .ep _ _ _ _,_,b | .mp _,_,b | .ag _,_,b | .tup _,_,b | .fn _ _ _,_,b | .bad,_,b=>by cases b
theorem SlOf.app{h:List Ob}{a:AV}{e:Nat}{xs:List (List AV)}(s:SlOf h a e xs)(L:List Ob):SlOf (h++L) a e xs:=⟨YN a s.rows,λk=>jOa a (s.ee k)⟩
theorem waa:∀ {a:AV} {xs:List (List AV)},qa h a=some xs->AV.one a=true
 | .sl _ _,_,_ | .em,_,_ | .tl _ _,_,_ | .vw _ _ _ _,_,_=>rfl
 | .v x,xs,b=>by
   unfold qa at b
   split at b<;>rename_i heq<;>first
    | (cases heq;done)
    | (injection heq with heq;subst heq;rfl)
    | cases b
 | .ptr _ _,_,b | .ep _ _ _ _,_,b | .mp _,_,b | .ag _,_,b | .tup _,_,b | .fn _ _ _,_,b | .bad,_,b=>by cases b
theorem SlOf.one{h:List Ob}{a:AV}{e:Nat}{xs:List (List AV)}(s:SlOf h a e xs):AV.one a=true:=waa s.rows
theorem SlOf.cells{h:List Ob}{a:AV}{e:Nat}{xs:List (List AV)}(s:SlOf h a e xs):AV.cells a=some [a]:=by
 have c:=s.one
 obtain⟨b,_⟩:=s
 cases a with
 | v x=>rw[yta,if_pos (by simpa [YCa] using c)]
 | ag cs=>cases b
 | tup cs=>cases b
 | bad=>cases b
 | _=>rfl
theorem SlOf.at{h:List Ob}{a:AV}{e:Nat}{xs:List (List AV)}(s:SlOf h a e xs){i:Nat}(hi:i<xs.length):eOf h a=some e:=s.ee λb=>by rw[b] at hi;simp at hi
end
theorem wl0:IntKind.wrap .i64 0=0:=by decide
theorem wl1:IntKind.wrap .i64 1=1:=by decide
theorem wl2:IntKind.wrap .i64 2=2:=by decide
theorem wl3:IntKind.wrap .i64 3=3:=by decide
theorem wl4:IntKind.wrap .i64 4=4:=by decide
theorem wl5:IntKind.wrap .i64 5=5:=by decide
theorem wl6:IntKind.wrap .i64 6=6:=by decide
theorem wl7:IntKind.wrap .i64 7=7:=by decide
theorem wl8:IntKind.wrap .i64 8=8:=by decide
theorem wl9:IntKind.wrap .i64 9=9:=by decide
theorem xRb:IntKind.wrap .i64 10=10:=by decide
theorem xSb:IntKind.wrap .i64 11=11:=by decide
theorem xTb:IntKind.wrap .i64 12=12:=by decide
theorem xUb:IntKind.wrap .i64 13=13:=by decide
theorem xVb:IntKind.wrap .i64 14=14:=by decide
theorem xWb:IntKind.wrap .i64 15=15:=by decide
theorem xXb:IntKind.wrap .i64 16=16:=by decide
theorem xYb:IntKind.wrap .i64 17=17:=by decide
theorem xZb:IntKind.wrap .i64 18=18:=by decide
theorem x0b:IntKind.wrap .i64 19=19:=by decide
theorem x1b:IntKind.wrap .i64 20=20:=by decide
theorem wlm:IntKind.wrap .i64 (-1)= -1:=by decide
attribute [go_sem] wl0 wl1 wl2 wl3 wl4 wl5 wl6 wl7 wl8 wl9 xRb xSb xTb xUb xVb xWb xXb xYb xZb x0b x1b wlm
theorem Xha{x:Operand}:q8 (.move x)=none:=id rfl
theorem wba{x:Operand}:q8 (.assign x)=none:=id rfl
theorem Xia{x:Operand}{y:Operand}{z:Operand}:q8 (.pick x y z)=none:=id rfl
theorem Z5a{t:TypeId}:q8 (.alloc t)=none:=id rfl
theorem VJa{t:TypeId}{x:Operand}:q8 (.box t x)=none:=id rfl
theorem Z6a{t:TypeId}{a:Array (Nat × Operand)}:q8 (.build t a)=none:=id rfl
theorem YO{t:TypeId}{n:Nat}{a:Array (Nat × Operand)}:q8 (.buildSlice t n a)=none:=id rfl
theorem Xja{t:TypeId}{x:Operand}:q8 (.load t x)=none:=id rfl
theorem Z7a{t:TypeId}{x:Operand}{y:Operand}:q8 (.store t x y)=none:=id rfl
theorem jPa{x:Operand}:q8 (.nilCheck x)=none:=id rfl
theorem Z8a{b:BinOp}{t:TypeId}{x:Operand}{y:Operand}{u:TypeId}:q8 (.binOp b t x y u)=none:=id rfl
theorem Xka{q:UnOp}{t:TypeId}{x:Operand}:q8 (.unOp q t x)=none:=id rfl
theorem x4a{t:TypeId}{u:TypeId}{x:Operand}:q8 (.convert t u x)=none:=id rfl
theorem jQa{f:Fn}{aZ:Array Operand}{bs:Array Operand}:q8 (.makeFunc f aZ bs)=none:=id rfl
theorem qga{t:TypeId}{x:Operand}{n:Nat}:q8 (.fieldAddr t x n)=none:=id rfl
theorem qha{t:TypeId}{x:Operand}{y:Operand}:q8 (.indexAddr t x y)=none:=id rfl
theorem x5a{x:Operand}{n:Nat}:q8 (.extract x n)=none:=id rfl
theorem Xla{b:Builtin}{aZ:Array Operand}{a:Array TypeId}:q8 (.call ⟨.builtin b,aZ,a⟩)=none:=id rfl
theorem vp{b:Bool}(e:(b==false)=false):b=true:=by cases b<;>simp_all
theorem vq{b:Bool}(e:(b==false)=true):b=false:=by cases b<;>simp_all
theorem xP{b:Bool}(e:(b==true)=false):b=false:=by cases b<;>simp_all
theorem xQ{b:Bool}(e:(b==true)=true):b=true:=by cases b<;>simp_all
attribute [go_sem] Xha wba Xia Z5a VJa Z6a YO Xja Z7a jPa Z8a Xka x4a jQa qga qha x5a Xla
attribute [go_sem] VDa J4a ZQa vYa vZa VEa Y2a xZa J5a J6a jLa qda ZRa ZSa ZTa Y3a Y4a v0a J8a VFa VGa VHa ZUa x0a ZVa v1a ZWa v2a qea v3a ZXa jMa qfa YL v4a YM v5a v6a x1a x2a jNa ZYa Y5a Y6a ZZa Z0a Z1a v7a v8a
attribute [go_sem] xNa Vsa Vta ZGa JHa vLa JIa JJa JKa Vra ZFa Vua JLa JMa YB ZHa KR vMa JNa ZIa JOa Vva JPa JQa jDa Vwa Vxa JRa JSa YC jfb Y0a Y1a ZEa vJa
 yN ev evl evs ofV nth cut lay yR X7 Zz Jw xta YCa zbb zcb zdb J9a Xaa Xba Z4a vD Q3 Y8a Y9a VIa zab zeb Xca yta Xda Xea Z2a Xfa Xga part Jx ZA Z3a v9a qZ kY zfb jP wl vAa QY Jna yja vya vza xxa Xr xZ Yk X8 YVa jxa vm vP kQ yka jG JD xya Jy vn vG kV xD xk Z3 xva xwa kP yu
 qh Qu VG y8 Ke Vja Vqa JDa JEa JFa JGa Value.oneCell'
attribute [go_sem] List.head?_cons eq_self zN Option.getD_some Option.isSome_some if_true if_false Option.map_some Option.map_none Option.bind_some Option.bind_none List.map_cons List.map_nil List.length_cons List.length_nil zf List.cons_append List.nil_append zH
 List.set_cons_zero List.set_cons_succ List.getElem?_cons_zero List.getElem?_cons_succ List.getElem?_nil List.all_cons List.all_nil Bool.and_true Bool.and_self Bool.true_and Bool.false_eq_true and_self and_true true_and ne_eq not_false_eq_true
 List.take_succ_cons List.take_zero List.drop_succ_cons List.drop_zero beq_self_eq_true decide_true decide_false Nat.zero_add Nat.add_zero Bool.not_true Bool.not_false List.getElem?_toArray Bool.true_beq Bool.false_beq Bool.false_and Bool.and_false Bool.true_or Bool.or_true Bool.false_or Bool.or_false
attribute [go_sem] Nat.reduceAdd Nat.reduceMul Nat.reduceSub Nat.reduceLT Nat.reduceLeDiff Nat.reduceEqDiff reduceIte reduceCtorEq Int.reduceEq Int.reduceLT Int.reduceLE Int.reduceBEq Int.reduceToNat Int.reduceAdd Int.cast_ofNat_Int
