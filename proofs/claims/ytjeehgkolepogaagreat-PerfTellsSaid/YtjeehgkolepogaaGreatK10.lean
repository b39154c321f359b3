import Derived.Test.YtjeehgkolepogaaGreatK09
import Derived.LoopN
set_option linter.all false
namespace Go.Proofs.YtjeehgkolepogaaGreat.Ax
open Go Go.RowKit
section
variable{e i s k n:Nat}{xs:List (List AV)}{f:Fn}{x y:Operand}{t u:TypeId}{a:Array (Nat × Operand)}{aZ:Array Operand}{b:Bool}
def x8a(x:Option Oper)[k:Held (Oper->Prop)]:Prop:=match x with
 | some o=>k.it o
 | none=>False
def x9a(b s:Nat):Nat:=b+s
def KL(x:Option (Ob × (Nat->AV)))(h:List Ob)(id:Nat)[k:Held (AV->List Ob->Prop)]:Prop:=match x with
 | some (ob,mk)=>h[id]? =some .res/\k.it (mk id) (h.set id ob)
 | none=>False
def xS:Op->Bool
 | .alloc .. | .box .. | .buildSlice .. | .makeSlice .. | .makeMap .. =>true
 | _=>false
def VG(op:Op):xS op=true↔cls op=3:=by
 cases op
 case call c=>
  obtain⟨callee,args,a⟩:=c;cases callee with
  | builtin b=>cases b<;>simp[xS,cls]
  | value x=>simp[xS,cls]
  | invoke r m=>simp[xS,cls]
 case binOp op t y z u=>simp only[xS,cls];split<;>simp
 all_goals simp[xS,cls]
def Q7(P:Program)(ops:Array Oper)(b:Nat)(q:Ent)(o:Oper)(K:Env->List Ob->Prop)(T:Env)(h:List Ob):Prop:=
 if xS o.op then @KL (ji P T o.op) h (x9a b q.2.1) ⟨λx h'=>K (qG T o.dst x) h'⟩ else KE P T h o (λT h=>jf P ops T h q.2.2/\K T h)
def JL(P:Program)(ops:Array Oper)(b:Nat)(q:Ent)(K:Env->List Ob->Prop)(T:Env)(h:List Ob)(o:Oper):Prop:=match o.guard with
 | none=>Q7 P ops b q o K T h
 | some (j,a)=> @kN (vv ops j T) a ⟨Q7 P ops b q o K T h⟩ ⟨jf P ops (qG T o.dst (.v undef)) h q.2.2/\K (qG T o.dst (.v undef)) h⟩
def wpQ(P:Program)(ops:Array Oper)(b:Nat)(K:Env->List Ob->Prop):List Ent->Env->List Ob->Prop
 | [],T,h=>K T h
 | q::r,T,h=> @x8a ops[q.1]? ⟨JL P ops b q (wpQ P ops b K r) T h⟩
section
variable {P:Program} {N:Nat} {B:Bs} {ops:Array Oper} {T:Env} {h:List Ob} {Q Q':xk}
def XV{o:Oper}{K K':Env->List Ob->Prop}(k:Xw P T h o K)(b:∀T h,K T h->K' T h):Xw P T h o K':=by
 unfold Xw at k⊢;split
 ·rename_i l ar a;rw[a] at k;exact Vx k λh' q=>b _ _ q
 ·rename_i a;rw[a] at k;exact Ze k b
def k3a{K:Env->List Ob->Prop}:∀(l:List Oper) {T:Env} {h:List Ob},wpR P ops K l T h->wpA P ops K l T h
 | [],_,_,k=>k
 | o::r,T,h,k=>by
   have a:∀T h,wpR P ops K r T h->wpA P ops K r T h:=λT h=>k3a r;unfold wpR at k;unfold wpA;cases g:o.guard with
   | none=>simp only[g] at k ⊢;exact XV (q7a k) a
   | some q=>
     obtain⟨j,i⟩:=q;simp only[g,vv] at k⊢;cases f:(ops[j]?).bind (·.dst) with
     | none=>simp only[f,kN] at k
     | some d=>
       simp only[f] at k⊢;unfold kN at k;split at k
       ·rename_i b c;rw[c];refine⟨λe=>XV (q7a (k.1 (by simp[e]))) a,λe=>a _ _ (k.2 (by simp[e]))⟩
       ·rename_i vs c;rw[c];exact a _ _ k
       ·exact k.elim
def vk:∀(c:Code),okC N c=true->∀ {Q:xk} {T:Env} {h:List Ob},wpC P N B c Q T h->AWp P N B c Q T h:=by
 intro c
 induction c with
 | skip=>intro _ Q T h k;exact qGa k
 | label l=>intro _ Q T h k;exact zwa k
 | seq a b i j=>
   intro g Q T h k;simp only[okC,zi] at g;refine xOa ((i g.1 k).mono λe T h q=>?_)
   cases e<;>first
    | exact j g.2 q
    | exact q
 | region id ops d=>
   intro g Q T h k;cases d with
   | false=>exact WD g (k3a _ k)
   | true=>exact k
 | cond x a b i j=>
   intro g Q T h k;simp only[okC,zi] at g;unfold wpC JA at k;split at k
   ·rename_i t n;exact qIa n (λe=>i g.1 (k.1 e)) (λe=>j g.2 (k.2 e))
   ·exact k.elim
 | block id c m=>intro g Q T h k;exact zxa (m g k)
 | loop c m=>intro _ Q T h k;exact k
 | exit id=>intro _ Q T h k;exact qHa k
 | ret=>intro _ Q T h k;exact xNa k
 | rangeFunc f p a b _ _=>intro _ Q T h k;exact k
 | scope b _=>intro _ Q T h k;exact k
 | goto l=>intro _ Q T h k;exact k
 | refuse w=>intro _ Q T h k;exact k
def k4a{b:Nat}{K:Env->List Ob->Prop}:∀(l:List Ent) {T:Env} {h:List Ob},wpQ P ops b K l T h->wpE P ops b K l T h
 | [],_,_,k=>k
 | q::r,T,h,k=>by
   have f:∀T h,wpQ P ops b K r T h->wpE P ops b K r T h:=λT h=>k4a r;unfold wpQ x8a at k;unfold wpE;split at k
   ·rename_i o t;rw[t];simp only;have k:JL P ops b q (wpQ P ops b K r) T h o:=k;by_cases n:cls o.op=3
    ·have s:=(VG o.op).2 n
     have a:Q7 P ops b q o (wpQ P ops b K r) T h->yN P (b+q.2.1) o (wpE P ops b K r) T h:=λk=>by
      unfold Q7 at k;rw[if_pos s] at k;unfold KL at k;unfold yN;split at k
      ·rename_i ob mk u;rw[u];exact⟨k.1,f _ _ k.2⟩
      ·exact k.elim
     rw[xW n];unfold JE xl;unfold JL at k;cases i:o.guard with
     | none=>simp only[i] at k ⊢;exact a k
     | some p=>
       obtain⟨j,m⟩:=p;simp only[i,vv] at k⊢;cases g:(ops[j]?).bind (·.dst) with
       | none=>simp only[g,kN] at k
       | some d=>
         simp only[g] at k⊢;unfold kN at k;split at k
         ·rename_i b c;rw[c];exact⟨λe=>a (k.1 (by simp[e])),λe=>f _ _ (k.2 (by simp[e])).2⟩
         ·rename_i vs c;rw[c];exact f _ _ k.2
         ·exact k.elim
    ·have s:¬ xS o.op=true:=λh=>n ((VG o.op).1 h)
     have a:Q7 P ops b q o (wpQ P ops b K r) T h->vf P T h o (λT h=>jf P ops T h q.2.2/\wpE P ops b K r T h):=λk=>by
      unfold Q7 at k;rw[if_neg s] at k;exact Ze (WL k) λT h ⟨k1,k2⟩=>⟨k1,f _ _ k2⟩
     rw[kO n];unfold xM xl q8a;unfold JL at k;cases i:o.guard with
     | none=>simp only[i] at k ⊢;exact a k
     | some p=>
       obtain⟨j,m⟩:=p;simp only[i,vv] at k⊢;cases g:(ops[j]?).bind (·.dst) with
       | none=>simp only[g,kN] at k
       | some d=>
         simp only[g] at k⊢;unfold kN at k;split at k
         ·rename_i b c;rw[c];exact⟨λe=>a (k.1 (by simp[e])),λe=>let q:=k.2 (by simp[e]);⟨q.1,f _ _ q.2⟩⟩
         ·rename_i vs c;rw[c];exact⟨k.1,f _ _ k.2⟩
         ·exact k.elim
   ·exact k.elim
def YV{id:Nat}(e:P.follows .mixedOrders=true)(L:List Ob)(k:Nat)(a:List Ent)(d:L=List.replicate k .res)(c:ops.toList.all (wF N)=true)(b:JF ops k a=true)(q:wpQ P ops h.length (Q .normal) a T (h++L)): @w8 P N B ⟨(.region id ops true,Q)⟩ T h:=
 jia e k a c b (k4a _ (d▸q))
def oF:List Nat->List Ent->List Ent
 | [],r=>r
 | i::l,r=>(i,0,[])::oF l r
def vma{r:List Ent}:oF [] r=r:=id rfl
def kaa{i:Nat}{l:List Nat}{r:List Ent}:oF (i::l) r=(i,0,[])::oF l r:=id rfl
def zZ{id:Nat}(L:List Ob)(k:Nat)(a:List Ent)(q:wpQ P ops h.length (Q .normal) a T (h++L))(e:P.follows .mixedOrders=true:=by exact rfl)(d:L=List.replicate k .res:=by exact rfl)(c:ops.toList.all (wF N)=true:=by decide)(b:JF ops k a=true:=by decide): @w8 P N B ⟨(.region id ops true,Q)⟩ T h:=
 YV e L k a d c b q
section
variable {b:Nat} {K:Env->List Ob->Prop} {q:Ent} {o:Oper} {dst:Option Tmp} {op:Op} {type:TypeId} {pos:String} {after:Array Edge}
def kba:wpQ P ops b K [] T h=K T h:=id rfl
def jja{r:List Ent}:wpQ P ops b K (q::r) T h= @x8a ops[q.1]? ⟨JL P ops b q (wpQ P ops b K r) T h⟩:=id rfl
def zNa{k:Oper->Prop}: @x8a (some o) ⟨k⟩=k o:=id rfl
def WX:JL P ops b q K T h ⟨dst,op,type,pos,after,none⟩=Q7 P ops b q ⟨dst,op,type,pos,after,none⟩ K T h:=id rfl
def WY{j:Nat}{a:Bool}:JL P ops b q K T h ⟨dst,op,type,pos,after,some (j,a)⟩= @kN (vv ops j T) a ⟨Q7 P ops b q ⟨dst,op,type,pos,after,some (j,a)⟩ K T h⟩ ⟨jf P ops (qG T dst (.v undef)) h q.2.2/\K (qG T dst (.v undef)) h⟩:=id rfl
def kca{g:Option (Nat × Bool)}(a:xS op=true):Q7 P ops b q ⟨dst,op,type,pos,after,g⟩ K T h= @KL (ji P T op) h (x9a b q.2.1) ⟨λx h'=>K (qG T dst x) h'⟩:=by
 unfold Q7;rw[if_pos a]
def vna{g:Option (Nat × Bool)}(a:xS op=false):Q7 P ops b q ⟨dst,op,type,pos,after,g⟩ K T h=KE P T h ⟨dst,op,type,pos,after,g⟩ (λT h=>jf P ops T h q.2.2/\K T h):=by
 unfold Q7;rw[if_neg];rw[a];simp
def VH{ob:Ob}{mk:Nat->AV}{i:Nat}{k:AV->List Ob->Prop}: @KL (some (ob,mk)) h i ⟨k⟩=(h[i]? =some .res/\k (mk i) (h.set i ob)):=id rfl
def jka{a c s:Nat}:x9a (a+c) s=a+(c+s):=Nat.add_assoc a c s
def jla{α:Type}{l:List α}{s:Nat}:x9a l.length s=l.length+s:=id rfl
def KN:jf P ops T h []=True:=id rfl
def Xz{l:Nat}{r:List Nat}:jf P ops T h (l::r)=(vL P ops T h l/\jf P ops T h r):=id rfl
def zOa{l:Nat}:vL P ops T h l=(match ops[l]? with
 | some o=>match o.dst with
   | some d=>w9 P ops T h o=some (T d)
   | none=>False
 | none=>False):=id rfl
def zPa:w9 P ops T h ⟨dst,op,type,pos,after,none⟩=(zO P T h op).map (·.1):=id rfl
def jma(t:AV)(a:Bool)(x:Option AV):Option AV:=match t with
 | .v (.bool b)=>if b=a then x else some (.v undef)
 | .v (.tuple _)=>some (.v undef)
 | _=>none
def zQa{j:Nat}{a:Bool}:w9 P ops T h ⟨dst,op,type,pos,after,some (j,a)⟩=jma (vv ops j T) a ((zO P T h op).map (·.1)):=by
 unfold w9 vv;simp only;cases b:(ops[j]?).bind (·.dst) with
 | none=>rfl
 | some d=>
   simp only;generalize T d=t;unfold jma;rfl
def voa{b a:Bool}{x:Option AV}:jma (.v (.bool b)) a x=if b=a then x else some (.v undef):=id rfl
def vpa{vs:Array Value}{a:Bool}{x:Option AV}:jma (.v (.tuple vs)) a x=some (.v undef):=id rfl
def WZ{t:TypeId}:xS (.alloc t)=true:=id rfl
def jna{t:TypeId}{x:Operand}:xS (.box t x)=true:=id rfl
def kda{t:TypeId}{n:Nat}{a:Array (Nat × Operand)}:xS (.buildSlice t n a)=true:=id rfl
def kea{t:TypeId}{x y:Operand}:xS (.makeSlice t x y)=true:=id rfl
def kfa{t:TypeId}{r:Option Operand}:xS (.makeMap t r)=true:=id rfl
def zRa{x:Operand}:xS (.move x)=false:=id rfl
def VI{x:Operand}:xS (.assign x)=false:=id rfl
def zSa{x y z:Operand}:xS (.pick x y z)=false:=id rfl
def W0{t:TypeId}{a:Array (Nat × Operand)}:xS (.build t a)=false:=id rfl
def zTa{t:TypeId}{x:Operand}:xS (.load t x)=false:=id rfl
def W1{t:TypeId}{x y:Operand}:xS (.store t x y)=false:=id rfl
def XA{x:Operand}:xS (.nilCheck x)=false:=id rfl
def W2{b:BinOp}{t u:TypeId}{x y:Operand}:xS (.binOp b t x y u)=false:=id rfl
def zUa{b:UnOp}{t:TypeId}{x:Operand}:xS (.unOp b t x)=false:=id rfl
def KO{t u:TypeId}{x:Operand}:xS (.convert t u x)=false:=id rfl
def XB{f:Fn}{aZ a:Array Operand}:xS (.makeFunc f aZ a)=false:=id rfl
def JM{t:TypeId}{x:Operand}{n:Nat}:xS (.fieldAddr t x n)=false:=id rfl
def W3{t:TypeId}{x:Operand}{n:Nat}:xS (.field t x n)=false:=id rfl
def JN{t:TypeId}{x y:Operand}:xS (.indexAddr t x y)=false:=id rfl
def W4{t:TypeId}{x y:Operand}:xS (.index t x y)=false:=id rfl
def W5{t:TypeId}{x:Operand}{l m k:Option Operand}:xS (.slice t x l m k)=false:=id rfl
def VJ{t:TypeId}{x y z:Operand}:xS (.insert t x y z)=false:=id rfl
def VK{t:TypeId}{x y:Operand}{o:Bool}:xS (.lookup t x y o)=false:=id rfl
def KP{x:Operand}{n:Nat}:xS (.extract x n)=false:=id rfl
def zVa{c:Call}:xS (.call c)=false:=id rfl
def vqa{t:TypeId}{x y:Operand}:qw (.makeSlice t x y)=none:=id rfl
def vra{t:TypeId}{r:Option Operand}:qw (.makeMap t r)=none:=id rfl
def zWa{t:TypeId}{x:Operand}{n:Nat}:qw (.field t x n)=none:=id rfl
def zXa{t:TypeId}{x y:Operand}:qw (.index t x y)=none:=id rfl
def zYa{t:TypeId}{x:Operand}{l m k:Option Operand}:qw (.slice t x l m k)=none:=id rfl
def W6{t:TypeId}{x y z:Operand}:qw (.insert t x y z)=none:=id rfl
def W7{t:TypeId}{x y:Operand}{o:Bool}:qw (.lookup t x y o)=none:=id rfl
end
def wp_loop_a{c:Code}(a:okC N c=true)(I:Nat->Env->List Ob->Prop)(n:Nat)(h0:I n T h)
    (round:∀n T h,I n T h->wpC P N B c (wZ (λb h'=>∃n',n'<n/\I n' b h') Q) T h): @w8 P N B ⟨(.loop c,Q)⟩ T h:=
 awp_loop I n h0 λn T h k=>vk c a (round n T h k)
def vsa(P:Program)(N:Nat)(B:Bs)(n:Nat)[x:Held (Code × xk)](T:Env)(h:List Ob):Prop:=
 ∀(φ:Nat->Ob),Upto φ h.length->∀(w:World) (g:Gh) (a:Act),Rel N B w g (fill φ h) a T->Code.rounds P x.it.1 (λe a' w'=>∃b h',x.it.2 e b h'/\Aft N B φ w g h b h' a' w') n a w
def QS{c:Code}{Q Q':Exit->Act->World->Prop}(b:∀e a w,Q e a w->Q' e a w):∀(n:Nat) {a:Act} {w:World},Code.rounds P c Q n a w->Code.rounds P c Q' n a w
 | 0,_,_,k=>k
 | n+1,a,w,k=>by
   rw[rounds_succ] at k⊢;refine wp_mono k λe a' w' q=>?_
   cases e<;>first
    | exact QS b n q
    | exact b _ _ _ q
def vl{c:Code}(n:Nat)(k: @vsa P N B n ⟨(c,Q)⟩ T h): @w8 P N B ⟨(.loop c,Q)⟩ T h:=λφ b w g a r=>wp_loop_rounds n (k φ b w g a r)
def jI{c:Code}{n:Nat}(f:okC N c=true)(k:wpC P N B c (wZ (λb h'=> @vsa P N B n ⟨(c,Q)⟩ b h') Q) T h): @vsa P N B (n+1) ⟨(c,Q)⟩ T h:=λφ j w g a r=>by
 rw[rounds_succ];refine wp_mono (vk c f k φ j w g a r) λe a' w' ⟨b,h',i,d⟩=>?_;cases e with
 | normal=>
   have m:=d.len;obtain⟨g',l,p,q⟩:=d;exact QS (λ_ _ _ ⟨u,o,s,t⟩=>⟨u,o,s,t.trans l q⟩) n (i φ (j.mono m) w' g' a' p)
 | _=>exact⟨b,h',i,d⟩
def acalls_wp{f:FuncId}(fn:Func){c:Code}{aZ:List AV}{R:AV->List Ob->Prop}(rs:List ResultVar)(N:Nat)(i:P.funcs[f]? =some fn)(g:fn.body=some c)(e:fn.ntmps=N)(b:fn.results.toList=rs)(j:aZ.length.ble N=true)(a:Vu P f=true)(d:okC N c=true)(hex:∃r h',R r h'/\ResK h h')
    (k:∀B,wpC P N B c (Jy P rs h R) (nth aZ) h):ACalls P f aZ h R:=acalls_of i g e b (Nat.le_of_ble_eq_true j) a hex λB=>vk c d (k B)
def acalls_e{f:FuncId}(fn:Func){c:Code}{aZ:List AV}{R:AV->List Ob->Prop}(rs:List ResultVar)(N:Nat)(k:∀B,wpC P N B c (Jy P rs h R) (nth aZ) h)(hex:∃r h',R r h'/\ResK h h':=by exact⟨_,_,⟨rfl,rfl⟩,.refl⟩)
    (i:P.funcs[f]? =some fn:=by exact rfl) (g:fn.body=some c:=by exact rfl) (e:fn.ntmps=N:=by exact rfl) (b:fn.results.toList=rs:=by exact rfl) (j:aZ.length.ble N=true:=by exact rfl) (a:Vu P f=true:=by exact rfl) (d:okC N c=true:=by decide):ACalls P f aZ h R:=
 acalls_wp fn rs N i g e b j a d hex k
end
def wta{x:Value}:AV.one (.v x)=x.oneCell':=id rfl
def vta:AV.one (.sl e xs)=true:=id rfl
def vua:AV.one (.tl i s)=true:=id rfl
def kga:AV.one (.ptr i s)=true:=id rfl
def vva{a:AV}:AV.one (.ep a e i k)=true:=id rfl
def vwa:AV.one .em=true:=id rfl
def vxa{a:AV}:AV.one (.vw a e i n)=true:=id rfl
def joa:AV.cells .em=some [.em]:=id rfl
def jpa{a:AV}:AV.cells (.vw a e i n)=some [.vw a e i n]:=id rfl
def vya:AV.one (.mp i)=true:=id rfl
def jqa:AV.cells (.mp i)=some [.mp i]:=id rfl
def vza{a b:List AV}:AV.one (.fn f a b)=true:=id rfl
def jra{a:List AV}:AV.cells (.ag a)=if a.all AV.one then some a else none:=id rfl
def kha{x:Value}:AV.cells (.v x)=if x.oneCell' then some [.v x] else none:=id rfl
def jsa:AV.cells (.sl e xs)=some [.sl e xs]:=id rfl
def jta:AV.cells (.tl i s)=some [.tl i s]:=id rfl
def zZa:AV.cells (.ptr i s)=some [.ptr i s]:=id rfl
def jua{a:AV}:AV.cells (.ep a e i k)=some [.ep a e i k]:=id rfl
def jva{a b:List AV}:AV.cells (.fn f a b)=some [.fn f a b]:=id rfl
def YW(o:Option Ob)(st:Nat):Option (List (List AV)):=match o with
 | some (.row _ _ xs s)=>if s=st then some xs else none
 | _=>none
def eTl(o:Option Ob):Option Nat:=match o with
 | some (.row _ e _ _)=>some e
 | _=>none
section
variable {h h':List Ob}
def z0a{e:Nat}{xs:List (List AV)}:zI h (.sl e xs)=some xs:=id rfl
def z1a:zI h .em=some []:=id rfl
def xX{a:AV}{e i n:Nat}:zI h (.vw a e i n)=(zI h a).bind λxs=>if i+n<=xs.length/\(n=0∨eOf h a=some e) then some ((xs.drop i).take n) else none:=id rfl
def JO{a:AV}{e i n:Nat}:eOf h (.vw a e i n)=(eOf h a).bind λb=>if b=e then some e else none:=id rfl
def W8{k:Nat}:zI h (.v (.slice none 0 k))=some []:=id rfl
def jR{a st:Nat}:zI h (.tl a st)=YW h[a]? st:=id rfl
def vm{ty e s st:Nat}{xs:List (List AV)}:YW (some (.row ty e xs s)) st=if s=st then some xs else none:=id rfl
def vAa{e:Nat}{xs:List (List AV)}:eOf h (.sl e xs)=some e:=id rfl
def vM{a st:Nat}:eOf h (.tl a st)=eTl h[a]? :=id rfl
def wH{ty e s:Nat}{xs:List (List AV)}:eTl (some (.row ty e xs s))=some e:=id rfl
def jwa{x:Value}:zI h (.v x)=zI h' (.v x):=by
 unfold zI
 cases x<;>first
  | rfl
  | (rename_i a n k;cases a<;>cases n<;>rfl)
structure SlOf (h:List Ob) (a:AV) (e:Nat) (xs:List (List AV)):Prop where
 rows:zI h a=some xs
 ee:xs≠[]->eOf h a=some e
def KQ{L:List Ob}:∀(a:AV) {e:Nat},eOf h a=some e->eOf (h++L) a=some e
 | .sl _ _,_,b=>b
 | .tl id st,e,b=>by
   simp only[eOf] at b⊢;split at b
   ·rename_i ty g ys s d;rw[zk d];exact b
   ·cases b
 | .vw a f i n,e,b=>by
   simp only[eOf] at b⊢;cases c:eOf h a with
   | none=>rw[c] at b;cases b
   | some j=>rw[c] at b;rw[KQ a c];exact b
 | .v _,_,b | .em,_,b | .ptr _ _,_,b | .ep _ _ _ _,_,b | .mp _,_,b | .ag _,_,b | .tup _,_,b | .fn _ _ _,_,b | .bad,_,b=>by cases b
def JP{L:List Ob}:∀(a:AV) {xs:List (List AV)},zI h a=some xs->zI (h++L) a=some xs
 | .sl _ _,_,b=>b
 | .em,_,b=>b
 | .tl id st,xs,b=>by
   simp only[zI] at b⊢;split at b
   ·rename_i ty g ys s f;rw[zk f];exact b
   ·cases b
 | .vw a e i n,xs,b=>by
   simp only[zI] at b⊢;cases c:zI h a with
   | none=>rw[c] at b;cases b
   | some ys=>
     rw[c] at b;rw[JP a c];simp only[Option.bind_some] at b⊢;split at b
     ·rename_i d;rw[if_pos ⟨d.1,d.2.imp id (KQ a)⟩];exact b
     ·cases b
 | .v x,xs,b=>by rw[<-jwa (h:=h)];exact b
 | .ptr _ _,_,b | .ep _ _ _ _,_,b | .mp _,_,b | .ag _,_,b | .tup _,_,b | .fn _ _ _,_,b | .bad,_,b=>by cases b
def SlOf.app{h:List Ob}{a:AV}{e:Nat}{xs:List (List AV)}(s:SlOf h a e xs)(L:List Ob):SlOf (h++L) a e xs:=⟨JP a s.rows,λk=>KQ a (s.ee k)⟩
def W9:∀ {a:AV} {xs:List (List AV)},zI h a=some xs->AV.one a=true
 | .sl _ _,_,_ | .em,_,_ | .tl _ _,_,_ | .vw _ _ _ _,_,_=>rfl
 | .v x,xs,b=>by
   unfold zI at b
   split at b<;>rename_i heq<;>first
    | (cases heq;done)
    | (injection heq with heq;subst heq;rfl)
    | cases b
 | .ptr _ _,_,b | .ep _ _ _ _,_,b | .mp _,_,b | .ag _,_,b | .tup _,_,b | .fn _ _ _,_,b | .bad,_,b=>by cases b
def SlOf.one{h:List Ob}{a:AV}{e:Nat}{xs:List (List AV)}(s:SlOf h a e xs):AV.one a=true:=W9 s.rows
def SlOf.at{h:List Ob}{a:AV}{e:Nat}{xs:List (List AV)}(s:SlOf h a e xs){i:Nat}(hi:i<xs.length):eOf h a=some e:=s.ee λb=>by rw[b] at hi;simp at hi
end
def wl0:IntKind.wrap .i64 0=0:=ze
def wl1:IntKind.wrap .i64 1=1:=ze
def wl2:IntKind.wrap .i64 2=2:=ze
def wl3:IntKind.wrap .i64 3=3:=ze
def wl4:IntKind.wrap .i64 4=4:=ze
def wl5:IntKind.wrap .i64 5=5:=ze
def wl6:IntKind.wrap .i64 6=6:=ze
def wl7:IntKind.wrap .i64 7=7:=ze
def wl8:IntKind.wrap .i64 8=8:=ze
def wl9:IntKind.wrap .i64 9=9:=ze
def w6a:IntKind.wrap .i64 10=10:=ze
def w7a:IntKind.wrap .i64 11=11:=ze
def w8a:IntKind.wrap .i64 12=12:=ze
def w9a:IntKind.wrap .i64 13=13:=ze
def yaa:IntKind.wrap .i64 14=14:=ze
def yba:IntKind.wrap .i64 15=15:=ze
def yca:IntKind.wrap .i64 16=16:=ze
def yda:IntKind.wrap .i64 17=17:=ze
def yea:IntKind.wrap .i64 18=18:=ze
def yfa:IntKind.wrap .i64 19=19:=ze
def yga:IntKind.wrap .i64 20=20:=ze
def wlm:IntKind.wrap .i64 (-1)= -1:=ze
attribute [go_sem] wl0 wl1 wl2 wl3 wl4 wl5 wl6 wl7 wl8 wl9 w6a w7a w8a w9a yaa yba yca yda yea yfa yga wlm
def jxa:qw (.move x)=none:=id rfl
def Ya:qw (.assign x)=none:=id rfl
def jya{z:Operand}:qw (.pick x y z)=none:=id rfl
def z2a:qw (.alloc t)=none:=id rfl
def kia:qw (.box t x)=none:=id rfl
def z3a:qw (.build t a)=none:=id rfl
def JQ:qw (.buildSlice t n a)=none:=id rfl
def jza:qw (.load t x)=none:=id rfl
def z4a:qw (.store t x y)=none:=id rfl
def KR:qw (.nilCheck x)=none:=id rfl
def z5a{b:BinOp}:qw (.binOp b t x y u)=none:=id rfl
def jAa{q:UnOp}:qw (.unOp q t x)=none:=id rfl
def VL:qw (.convert t u x)=none:=id rfl
def KS{a:Array Operand}:qw (.makeFunc f aZ a)=none:=id rfl
def XC:qw (.fieldAddr t x n)=none:=id rfl
def XD:qw (.indexAddr t x y)=none:=id rfl
def VM:qw (.extract x n)=none:=id rfl
def jBa{b:Builtin}{a:Array TypeId}:qw (.call ⟨.builtin b,aZ,a⟩)=none:=id rfl
def ju(e:(b==false)=false):b=true:=by cases b<;>simp_all
def jv(e:(b==false)=true):b=false:=by cases b<;>simp_all
def qY(e:(b==true)=false):b=false:=by cases b<;>simp_all
def qZ(e:(b==true)=true):b=true:=by cases b<;>simp_all
attribute [go_sem] jxa Ya jya z2a kia z3a JQ jza z4a KR z5a jAa VL KS XC XD VM jBa
attribute [go_sem] vma kaa kba jja zNa WX WY kca vna VH jka jla KN Xz zOa zPa zQa voa vpa WZ jna kda kea kfa zRa VI zSa W0 zTa W1 XA W2 zUa KO XB JM W3 JN W4 W5 VJ VK KP zVa vqa vra zWa zXa zYa W6 W7
attribute [go_sem] qYa xZa x0a zEa qUa WJ qVa qWa qXa xYa zDa x1a qZa q0a JC zFa Z3 WK q1a zGa q2a x2a q3a q4a KF x3a x4a q5a q6a JD wsa vka vla zCa WH
 vv ev evl evs ofV nth cut lay vC ZC wi yD Vg wta vwa vxa vya joa jpa jqa z1a xX JO vta vua kga vva vza jra kha jsa jta zZa jua jva part yE wj z0a W8 jR vm vAa vM wH WA yk qEa YO Wy Wz Vj Zb Qn Jt ZD vea Kz xr xL xf YP ji yG Vk yF xu xC xj jK jy wC Vh Vi xc vd
 zO wY Xx wn ZJ vga xXa qQa qRa qSa qTa Value.oneCell'
attribute [go_sem] List.head?_cons eq_self qP Option.getD_some Option.isSome_some if_true if_false Option.map_some Option.map_none Option.bind_some Option.bind_none List.map_cons List.map_nil List.length_cons List.length_nil zp List.cons_append List.nil_append zJ
 List.set_cons_zero List.set_cons_succ List.getElem?_cons_zero List.getElem?_cons_succ List.getElem?_nil List.all_cons List.all_nil Bool.and_true Bool.and_self Bool.true_and Bool.false_eq_true and_self and_true true_and ne_eq not_false_eq_true
 List.take_succ_cons List.take_zero List.drop_succ_cons List.drop_zero beq_self_eq_true decide_true decide_false Nat.zero_add Nat.add_zero Bool.not_true Bool.not_false List.getElem?_toArray Bool.true_beq Bool.false_beq Bool.false_and Bool.and_false Bool.true_or Bool.or_true Bool.false_or Bool.or_false
attribute [go_sem] Nat.reduceAdd Nat.reduceMul Nat.reduceSub Nat.reduceLT Nat.reduceLeDiff Nat.reduceEqDiff reduceIte reduceCtorEq Int.reduceEq Int.reduceLT Int.reduceLE Int.reduceBEq Int.reduceToNat Int.reduceAdd Int.cast_ofNat_Int
section
variable {P:Program} {N:Nat} {B:Bs} {h:List Ob} {T:Env} {Q:xk} {ops:Array Oper}
def zz{p q:Prop}(k:q)(e:q->p:=by intro k;simp only[go_sem];exact k):p:=e k
def qx{f:FuncId}{v:List AV}{x:AV}{H:List Ob}{K:AV->List Ob->Prop}(c:ACalls P f v h λr h'=>r=x/\h'=H)(k:K x H): @Jz P f v h ⟨K⟩:=zl c λ_ _ ⟨a,b⟩=>a▸b▸k
def qI{f:FuncId}{v:List AV}{x:AV}{H:List Ob}{K:AV->List Ob->Prop}{q:Prop}(c:ACalls P f v h λr h'=>r=x/\h'=H)(k:q)(e:q->K x H:=by intro k;simp only[go_sem];exact k): @Jz P f v h ⟨K⟩:=qx c (e k)
def enterQX{f:FuncId}(fn:Func){c:Code}{v:List AV}{R:AV->List Ob->Prop}{rs:List ResultVar}{N:Nat}(k:∀B,wpC P N B c (Jy P rs h R) (nth v) h)(hex:∃r h',R r h'/\ResK h h':=by exact⟨_,_,⟨rfl,rfl⟩,.refl⟩)
    (i:P.funcs[f]? =some fn:=by exact rfl) (g:fn.body=some c:=by exact rfl) (e:fn.ntmps=N:=by conv=>lhs;whnf) (b:fn.results.toList=rs:=by conv=>lhs;whnf) (j:v.length.ble N=true:=by exact rfl) (a:Vu P f=true:=by exact rfl) (d:okC N c=true:=by decide):ACalls P f v h R:=
 acalls_wp fn rs N i g e b j a d hex k
def enterSX{f:FuncId}(fn:Func){c:Code}{v:List AV}{R:AV->List Ob->Prop}{rs:List ResultVar}{N:Nat}{q:Bs->Prop}(k:∀B,q B)(hex:∃r h',R r h'/\ResK h h':=by exact⟨_,_,⟨rfl,rfl⟩,.refl⟩)
    (j:P.funcs[f]? =some fn:=by exact rfl) (i:fn.body=some c:=by exact rfl) (g:fn.ntmps=N:=by conv=>lhs;whnf) (b:fn.results.toList=rs:=by conv=>lhs;whnf) (l:v.length.ble N=true:=by exact rfl) (a:Vu P f=true:=by exact rfl) (d:okC N c=true:=by decide) (e:∀B,q B->wpC P N B c (Jy P rs h R) (nth v) h:=by intro B k;simp only[go_sem];exact k):ACalls P f v h R:=
 acalls_wp fn rs N j i g b l a d hex λB=>e B (k B)
def jCa{id:Nat}(L:List Ob)(k:Nat)(a:List Ent){p:Prop}(q:p)(f:P.follows .mixedOrders=true:=by exact rfl)(d:L=List.replicate k .res:=by exact rfl)(c:ops.toList.all (wF N)=true:=by decide)(b:JF ops k a=true:=by decide)(e:p->wpQ P ops h.length (Q .normal) a T (h++L):=by intro k;simp only[go_sem];exact k): @w8 P N B ⟨(.region id ops true,Q)⟩ T h:=
 YV f L k a d c b (e q)
def qt{rs:List ResultVar}{r:AV}{T:Env}{H:List Ob}(b:Xx P T H rs=some r:=by simp only[go_sem]<;>try rfl)(c:H=h∨∃L,H=h++L/\r.lt h.length=true:=by first|exact .inl rfl|exact .inr ⟨_,rfl,rfl⟩):Jy P rs h (λa h'=>a=r/\h'=h) .ret T H:=zm b c
end
end
