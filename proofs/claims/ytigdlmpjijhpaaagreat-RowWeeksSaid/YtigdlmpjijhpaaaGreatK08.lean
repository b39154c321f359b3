/-
  Joined.
-/
import Derived.Test.YtigdlmpjijhpaaaGreatK07
set_option linter.unusedSimpArgs false
set_option linter.unusedVariables false
namespace Go.Proofs.YtigdlmpjijhpaaaGreat.Ax
open Go Go.RowKit
abbrev Ent:=Nat × Nat × List Nat
def kY (P:Program) (ops:Array Oper) (T:Env) (h:List Ob) (l:Nat):Prop:=match ops[l]? with
 | some o=>match o.dst with
   | some d=>wC P ops T h o=some (T d)
   | none=>False
 | none=>False
def qq (P:Program) (ops:Array Oper) (T:Env) (h:List Ob):List Nat->Prop
 | []=>True
 | l::r=>kY P ops T h l/\qq P ops T h r
def jA (P:Program) (ops:Array Oper) (b:Nat) (q:Ent) (o:Oper) (K:Env->List Ob->Prop) (T:Env) (h:List Ob):Prop:=
 if cls o.op=3 then Xm P ops (b+q.2.1) o K T h else j5 P ops o (λT h=>qq P ops T h q.2.2/\K T h) T h
def wpE (P:Program) (ops:Array Oper) (b:Nat) (K:Env->List Ob->Prop):List Ent->Env->List Ob->Prop
 | [],T,h=>K T h
 | q::r,T,h=>match ops[q.1]? with
   | some o=>jA P ops b q o (wpE P ops b K r) T h
   | none=>False
def kv (o:Oper):List Nat:=(o.after.toList.filter (Region.binds .any)).map (·.on)
def wD (ops:Array Oper):Nat->Nat->Nat->Bool
 | 0,j,i=>match ops[i]? with
   | some o=>(kv o).contains j
   | none=>false
 | f+1,j,i=>match ops[i]? with
   | some o=>(kv o).contains j || (kv o).any λk=>decide (j<k) && wD ops f j k
   | none=>false
def VM (x y:Oper):Bool:=match x.op,y.op with
 | .insert t m (.const (.int k n)) _,.insert c d (.const (.int k' n')) _=>(match m,d with
   | .tmp a,.tmp b=>a==b
   | _,_=>false) && t==c && k==k' && n != n' && x.guard.isNone && y.guard.isNone
 | _,_=>false
def WC:Op->Bool
 | .alloc .. | .box .. | .buildSlice .. | .makeSlice .. =>true
 | _=>false
def yIa:Op->Bool
 | .insert .. =>true
 | _=>false
def kfa (x y:Oper):Bool:=WC x.op && yIa y.op && y.guard.isNone
def xk (ops:Array Oper) (l p:Nat):Bool:=match ops[l]?,ops[p]? with
 | some a,some b=>match b.dst with
   | some d=> !jP ops a d && a.dst != some d
   | none=>true
 | _,_=>false
def wV (ops:Array Oper) (p q:Ent) (x y:Oper):Bool:=WB ops x y &&
 ((cls x.op==0 && cls y.op != 3) || (cls x.op==1 && decide (cls y.op<=1)) || cls y.op==3 || (cls x.op==1 && cls y.op==2 && q.2.2.contains p.1) || (VM x y && p.2.2.isEmpty && q.2.2.isEmpty) || (kfa x y && p.2.2.isEmpty && q.2.2.isEmpty))
def kJ (ops:Array Oper) (p q:Ent):Bool:=match ops[p.1]?,ops[q.1]? with
 | some x,some y=>(wD ops 8 p.1 q.1 || wV ops p q x y) && !wD ops 8 q.1 p.1 && !p.2.2.contains q.1 && (cls x.op != 3 || cls y.op != 3 || p.2.1 != q.2.1)
 | _,_=>false
def Ql (ops:Array Oper):List Ent->Bool
 | []=>true
 | x::r=>r.all (kJ ops x) && Ql ops r
def QL (ops:Array Oper):Nat->List Oper->Bool
 | _,[]=>true
 | i,o::r=>(kv o).all (λj=>decide (j<i)) && QL ops (i+1) r
def wo (ops:Array Oper) (l:Nat):Bool:=(match ops[l]? with
 | some o=>decide (cls o.op<=1) && (match o.dst with
   | some d=> !jP ops o d
   | none=>false)
 | none=>false) && (List.range ops.size).all λp=>p==l || wD ops 8 p l || xk ops l p
def qAa (ops:Array Oper) (k:Nat) (q:Ent):Bool:=match ops[q.1]? with
 | some o=>(cls o.op==2 || q.2.2.isEmpty) && (cls o.op != 3 || decide (q.2.1<k)) && !q.2.2.contains q.1 && q.2.2.all (wo ops)
 | none=>false
def Xn (ops:Array Oper) (k:Nat) (a:List Ent):Bool:=
 Ql ops a && QL ops 0 ops.toList && a.all (qAa ops k) && (List.range ops.size).all (λi=>(a.map (·.1)).contains i) && decide (a.map (·.1)).Nodup && decide (a.length<=ops.size)
section
variable {P:Program} {N:Nat} {B:Bs} {ops:Array Oper} {T:Env} {h:List Ob} {K K':Env->List Ob->Prop} {b:Nat} {p q:Ent} {x y:Oper}
theorem qW {l:List Nat}:qq P ops T h l↔∀i∈l,kY P ops T h i:=by
 induction l with
 | nil=>simp[qq]
 | cons i l a=>simp[qq,a]
theorem KT {o:Oper} (a:cls o.op<=1):xX P T h o K↔∃x,(zn P T h o.op).map (·.1)=some x/\K (zN T o.dst x) h:=by
 unfold xX
 cases d:zn P T h o.op with
 | some q=>
   obtain ⟨x,h'⟩:=q
   have:=zha a d
   subst this
   simp
 | none=>
   simp only[Option.map_none]
   constructor
   ·intro k
    generalize o.op=op at k a d
    cases op<;>first
     | exact k.elim
     | skip
    rename_i c
    obtain ⟨callee,args,f⟩:=c
    cases callee with
    | builtin b=>exact k.elim
    | value x=>simp[cls] at a
    | invoke r m=>exact k.elim
   ·rintro ⟨x,e,_⟩;cases e
theorem zia {o:Oper} (c:cls o.op<=1):j5 P ops o K T h↔∃x,wC P ops T h o=some x/\K (zN T o.dst x) h:=by
 unfold j5 jz wC kca
 cases o.guard with
 | none=>exact KT c
 | some q=>
   obtain ⟨j,a⟩:=q
   simp only[]
   cases (ops[j]?).bind (·.dst) with
   | none=>simp
   | some d=>
     simp only[]
     split
     ·rename_i b _
      by_cases e:b=a
      ·subst e
       simp only[true_implies,ne_eq,not_true_eq_false,false_implies,and_true,if_true]
       exact KT c
      ·simp[e]
     ·simp
     ·simp
theorem jra {op:Op} (a:cls op=0) (h h':List Ob):(zn P T h op).map (·.1)=(zn P T h' op).map (·.1):=by
 cases op<;>simp only[cls] at a<;>try (omega;done)
 case binOp op t y z u=>
  have e:¬ Zc z=true:=λh=>by rw[if_pos h] at a;omega
  simp only[zn,if_neg e]
  simp[Option.map_map,Function.comp_def]
 case build t ps=>
  simp only[zn]
  repeat' split
  all_goals first | rfl | skip
  all_goals
   cases (zi P t).zero with
   | none=>rfl
   | some z=>simp only[Option.bind_some];simp[Option.map_map,Function.comp_def]
 case fieldAddr t y i=>
  simp only[zn]
  split
  ·rename_i d _
   cases d[i]? with
   | none=>rfl
   | some f=>
     simp only[Option.bind_some]
     split
     ·split<;>rfl
     ·rfl
  ·rfl
 case field t y i=>
  simp only[zn]
  split
  ·rename_i d _ _ _
   cases d[i]? with
   | none=>rfl
   | some f=>
     simp only[Option.bind_some]
     split
     ·simp[Option.map_map,Function.comp_def]
     ·rfl
  ·rfl
 case call c=>
  obtain ⟨callee,args,g⟩:=c
  cases callee with
  | builtin b=>
    cases b<;>simp at a
    ·simp only[zn,wA]
     split<;>simp_all [Function.comp_def]
    ·simp only[zn,wA]
     split<;>simp_all [Function.comp_def]
  | value x=>simp at a
  | invoke r m=>simp at a
 all_goals
  simp only[zn]
  repeat' split
 all_goals first | rfl | simp[Option.map_map,Function.comp_def]
theorem jsa {o:Oper} (a:cls o.op=0) (h h':List Ob):wC P ops T h o=wC P ops T h' o:=by
 unfold wC
 rw[jra a h h']
theorem WD {o:Oper} {d:Nat} {x:AV} (a:jP ops o d=false):wC P ops (upd T d x) h o=wC P ops T h o:=by
 unfold jP at a
 rw[Bool.or_eq_false_iff] at a
 unfold wC
 cases i:o.guard with
 | none=>simp only[ku o.op a.1]
 | some q=>
   obtain ⟨j,c⟩:=q
   rw[i] at a
   simp only[]
   cases f:(ops[j]?).bind (·.dst) with
   | none=>rfl
   | some e=>
     have b:e≠d:=λh=>by
      have:=a.2
      simp[f,h] at this
     have g:upd T d x e=T e:=by simp[upd,b]
     simp only[g,ku o.op a.1]
theorem Qm {o y:Oper} {v:AV} (a:∀d,y.dst=some d->jP ops o d=false):wC P ops (zN T y.dst v) h o=wC P ops T h o:=by
 cases b:y.dst with
 | none=>rfl
 | some d=>exact WD (a d b)
theorem JW {x y:Oper} {u v:AV} (a:∀d,x.dst=some d->y.dst≠some d):zN (zN T x.dst u) y.dst v=zN (zN T y.dst v) x.dst u:=by
 cases b:x.dst with
 | none=>rfl
 | some d=>
   have:=a d b
   exact Qk (T:=T) (x:=u) (y:=v) this
theorem WE {o:Oper} (k:xX P T h o K):xX P T h o λb d=>K b d/\(∃v,b=zN T o.dst v)/\ResK h d:=by
 unfold xX at*
 split
 ·rename_i x h' a
  rw[a] at k
  exact ⟨k,⟨x,rfl⟩,(wl (φ:=λ_=> .res) (λ_ _=>rfl) _ a).2⟩
 ·rename_i a
  rw[a] at k
  clear a
  generalize o.op=op at k⊢
  cases op<;>first
   | exact k.elim
   | skip
  rename_i c
  simp only at k⊢
  cases f:vm T c with
  | none=>rw[f] at k;exact k.elim
  | some q=>
    rw[f] at k
    obtain ⟨k1,⟨r,h',k2,k3⟩,k4⟩:=k
    refine ⟨k1,⟨r,h',⟨k2,⟨r,rfl⟩,k3⟩,k3⟩,λφ t B w g vs s l p=>(k4 φ t B w g vs s l p).mono λe w' ⟨v,r,h',g',n,m,i,j⟩=>⟨v,r,h',g',n,⟨m,⟨r,rfl⟩,i⟩,i,j⟩⟩
theorem wE {o:Oper} (k:j5 P ops o K T h):j5 P ops o (λa b=>K a b/\(∃v,a=zN T o.dst v)/\ResK h b) T h:=
 yK k WE λk=>⟨k,⟨_,rfl⟩,.refl⟩
theorem WF {id:Nat} {ob:Ob} (a:h[id]? =some .res):Upto (λi=>if i=id then ob else .res) h.length:=λi b=>by
 have:=(List.getElem?_eq_some_iff.1 a).1
 exact if_neg (by omega)
theorem yL {φ:Nat->Ob} {id:Nat} {ob:Ob} (b:h[id]? =some .res) (c:ob.isRes=false):fill (λi=>if i=id then ob else φ i) h=fill φ (h.set id ob):=by
 apply List.ext_getElem?
 intro j
 rw[xQ,xQ]
 by_cases a:id=j
 ·subst a
  rw[b,List.getElem?_set_self (List.getElem?_eq_some_iff.1 b).1]
  simp only[Option.map_some,Z8]
  rw[if_pos (show (Ob.res).isRes=true from rfl),if_pos trivial,if_neg (by rw[c];simp)]
 ·rw[List.getElem?_set_ne a]
  cases h[j]? with
  | none=>rfl
  | some o=>simp[Z8,show j≠id from λe=>a e.symm]
theorem Jm {id:Nat} {ob:Ob} (a:h[id]? =some .res) (b:ob.isRes=false):fill (λi=>if i=id then ob else .res) h=h.set id ob:=by
 rw[yL (φ:=λ_=> .res) a b,KG]
theorem KU {id:Nat} {ob:Ob} {op:Op} {x:AV} {h':List Ob} (e:zn P T h op=some (x,h')) (a:h[id]? =some .res) (d:ob.isRes=false):zn P T (h.set id ob) op=some (x,h'.set id ob)/\ResK h h':=by
 obtain ⟨c,b⟩:=wl (WF (ob:=ob) a) op e
 rw[Jm a d,Jm (b id a) d] at c
 exact ⟨c,b⟩
theorem wha {o:Oper} {id:Nat} {ob:Ob} {v:AV} (a:wC P ops T h o=some v) (k:h[id]? =some .res) (l:ob.isRes=false):wC P ops T (h.set id ob) o=some v:=by
 have key:∀v,(zn P T h o.op).map (·.1)=some v->(zn P T (h.set id ob) o.op).map (·.1)=some v:=λv b=>by
  cases e:zn P T h o.op with
  | none=>rw[e] at b;cases b
  | some q=>
    obtain ⟨y,h'⟩:=q
    rw[e] at b
    rw[(KU e k l).1]
    exact b
 unfold wC at*
 cases i:o.guard with
 | none=>simp only[i] at a ⊢;exact key v a
 | some q=>
   obtain ⟨j,g⟩:=q
   simp only[i] at a⊢
   cases f:(ops[j]?).bind (·.dst) with
   | none=>simp only[f] at a;cases a
   | some d=>
     simp only[f] at a⊢
     split at a
     ·split at a
      ·rename_i c;rw[if_pos c];exact key v a
      ·rename_i c;rw[if_neg c];exact a
     ·exact a
     ·cases a
theorem wia {id:Nat} {ob:Ob} {h':List Ob} (k:ResK h h'):ResK (h.set id ob) (h'.set id ob)∨(h.set id ob)[id]? =some .res:=by
 by_cases b:(h.set id ob)[id]? =some .res
 ·exact .inr b
 ·refine .inl λj a=>?_
  by_cases e:id=j
  ·subst e;exact absurd a b
  ·rw[List.getElem?_set_ne e] at a ⊢;exact k j a
theorem jta {f:FuncId} {aZ:List AV} {R:AV->List Ob->Prop} {id:Nat} {ob:Ob} (c:ACalls P f aZ h R) (b:h[id]? =some .res) (a:ob.isRes=false):ACalls P f aZ (h.set id ob) λr h''=>∃h',h''=h'.set id ob/\R r h'/\ResK h h':=by
 have n:=(List.getElem?_eq_some_iff.1 b).1
 have m:(h.set id ob)[id]? ≠some .res:=λe=>by
  rw[List.getElem?_set_self n] at e;injection e with e;subst e;cases a
 have d:∀h',ResK h h'->ResK (h.set id ob) (h'.set id ob):=λh' k=>by
  rcases wia (id:=id) (ob:=ob) k with k | k
  ·exact k
  ·exact absurd k m
 obtain ⟨y,⟨r,h',E,q⟩,A⟩:=c
 refine ⟨y,⟨r,h'.set id ob,⟨h',rfl,E,q⟩,d h' q⟩,λφ C B w g vs u D t=>?_⟩
 have o:Upto (λi=>if i=id then ob else φ i) h.length:=λi l=>by
  have:i≠id:=by omega
  simp only[if_neg this]
  exact C i (by simpa using l)
 rw[<-yL b a] at u t
 refine (A _ o B w g vs u D t).mono λe w' ⟨v,r,h',g',x,z,j,s,p⟩=>?_
 rw[yL b a,yL (j id b) a] at s
 rw[yL (j id b) a] at p
 exact ⟨v,r,h'.set id ob,g',x,⟨h',rfl,z,j⟩,d h' j,s,p⟩
theorem wja {o:Oper} {id:Nat} {ob:Ob} (k:xX P T h o K) (i:h[id]? =some .res) (j:ob.isRes=false):xX P T (h.set id ob) o λg q=>∃h',q=h'.set id ob/\K g h'/\(∃v,g=zN T o.dst v)/\ResK h h':=by
 have k:=WE k
 unfold xX at k⊢
 split at k
 ·rename_i x h' b
  rw[(KU b i j).1]
  exact ⟨h',rfl,k⟩
 ·rename_i b
  split at k
  ·rename_i c l
   have d:zn P T (h.set id ob) o.op=none:=by
    rw[l] at b⊢
    split at k
    ·rename_i f aZ a
     obtain ⟨callee,args,s⟩:=c
     unfold vm at a
     split at a
     ·rename_i X e;simp only at e;subst e;rfl
     ·cases a
    ·exact k.elim
   rw[d]
   simp only
   split at k
   ·rename_i f aZ a
    exact (jta k i j).mono λr h'' ⟨h',p,⟨n,t,m⟩,_⟩=>⟨h',p,n,t,m⟩
   ·exact k.elim
  ·exact k.elim
theorem Xo (b:WB ops x y=true):(∀d,x.dst=some d->jP ops y d=false/\y.dst≠some d)/\(∀d,y.dst=some d->jP ops x d=false/\x.dst≠some d):=by
 simp only[WB,Bool.and_eq_true] at b
 have c:∀d,x.dst=some d->jP ops y d=false/\y.dst≠some d:=λd a=>by
  have:=b.1
  rw[a] at this
  simpa using this
 refine ⟨c,λd a=>⟨?_,λe=>(c d e).2 a⟩⟩
 have:=b.2
 rw[a] at this
 simpa using this
theorem Kt {l:Nat} {a:Oper} (f:ops[l]? =some a) (e:ops[p.1]? =some x) (b:xk ops l p.1=true):(∀d,x.dst=some d->jP ops a d=false)/\(∀d,x.dst=some d->a.dst≠some d):=by
 unfold xk at b
 rw[f,e] at b
 simp only at b
 refine ⟨λd c=>?_,λd c=>?_⟩<;>(rw[c] at b;simp at b)
 ·exact b.1
 ·exact b.2
theorem zja {d:Nat} {v:AV} (b:x.dst≠some d):zN T x.dst v d=T d:=by
 cases a:x.dst with
 | none=>rfl
 | some e=>simp only[zN,upd];rw[if_neg];intro h;exact b (by rw[a,h])
theorem Zi {l:Nat} {v:AV} (b:ops[p.1]? =some x) (j:xk ops l p.1=true):kY P ops (zN T x.dst v) h l↔kY P ops T h l:=by
 unfold kY
 cases g:ops[l]? with
 | none=>simp
 | some a=>
   simp only
   obtain ⟨c,f⟩:=Kt g b j
   cases i:a.dst with
   | none=>simp
   | some d=>
     simp only
     rw[Qm c,zja λe=>f d e i]
theorem WG {l id:Nat} {ob:Ob} (k:kY P ops T h l) (e:h[id]? =some .res) (f:ob.isRes=false):kY P ops T (h.set id ob) l:=by
 unfold kY at*
 cases b:ops[l]? with
 | none=>rw[b] at k;exact k
 | some a=>
   rw[b] at k
   simp only at k⊢
   cases c:a.dst with
   | none=>rw[c] at k;exact k
   | some d=>rw[c] at k;exact wha k e f
theorem xS {o:Oper} (a:cls o.op≠3):jA P ops b q o K T h=j5 P ops o (λT h=>qq P ops T h q.2.2/\K T h) T h:=if_neg a
theorem xl {o:Oper} (a:cls o.op=3):jA P ops b q o K T h=Xm P ops (b+q.2.1) o K T h:=if_pos a
theorem jG {o:Oper} (a:cls o.op<=1) (c:q.2.2=[]):jA P ops b q o K T h↔∃x,wC P ops T h o=some x/\K (zN T o.dst x) h:=by
 rw[xS (by omega),c]
 simp only[qq,true_and]
 exact zia a
theorem jua {id:Nat} {o:Oper} (k:yJ P id o K T h):yJ P id o (λb c=>K b c/\(∃v,b=zN T o.dst v)/\∀j,j≠id->h[j]? =some .res->c[j]? =some .res) T h:=by
 unfold yJ at*
 split
 ·rename_i ob mk a
  rw[a] at k
  exact ⟨k.1,k.2,⟨_,rfl⟩,λj f d=>by rw[List.getElem?_set_ne (λe=>f e.symm)];exact d⟩
 ·rename_i a;rw[a] at k;exact k
theorem zka {o:Oper} (k:jA P ops b q o K T h) (d:∀e h',(∀j,(cls o.op=3->j≠b+q.2.1)->h[j]? =some .res->h'[j]? =some .res)->K e h'->K' e h'):jA P ops b q o K' T h:=by
 by_cases c:cls o.op=3
 ·rw[xl c] at k⊢
  refine yK k (λk=>zfa (jua k) λg i ⟨k,_,a⟩=>d _ _ (λj f=>a j (f c)) k) (d _ _ λj _ a=>a)
 ·rw[xS c] at k⊢
  exact jm (wE k) λg i ⟨⟨k1,k2⟩,_,a⟩=>⟨k1,d _ _ (λj _=>a j) k2⟩
def vG (P:Program) (ops:Array Oper) (T:Env) (o:Oper):Option (Option (Ob × (Nat->AV))):=match o.guard with
 | none=>(qo P T o.op).map some
 | some (j,a)=>match (ops[j]?).bind (·.dst) with
   | some d=>match T d with
     | .v (.bool b)=>if b=a then (qo P T o.op).map some else some none
     | .v (.tuple _)=>some none
     | _=>none
   | none=>none
theorem jn {id:Nat} {o:Oper}:Xm P ops id o K T h↔match vG P ops T o with
  | some (some (ob,mk))=>h[id]? =some .res/\K (zN T o.dst (mk id)) (h.set id ob)
  | some none=>K (zN T o.dst (.v undef)) h
  | none=>False:=by
 unfold Xm jz vG yJ
 cases o.guard with
 | none=>cases qo P T o.op<;>simp
 | some q=>
   obtain ⟨j,a⟩:=q
   simp only[]
   cases (ops[j]?).bind (·.dst) with
   | none=>simp
   | some d=>
     simp only[]
     generalize T d=td
     split
     ·rename_i b
      by_cases c:b=a
      ·subst c
       cases qo P T o.op<;>simp
      ·simp[c]
     ·simp
     ·rename_i n1 n2
      split
      ·rename_i heq
       split at heq
       ·exact absurd rfl (n1 _)
       ·cases heq
       ·cases heq
      ·rename_i heq
       split at heq
       ·exact absurd rfl (n1 _)
       ·exact absurd rfl (n2 _)
       ·cases heq
      ·rfl
theorem kga {o:Oper} {d:Nat} {v:AV} (a:jP ops o d=false):vG P ops (upd T d v) o=vG P ops T o:=by
 unfold jP at a
 rw[Bool.or_eq_false_iff] at a
 unfold vG
 cases i:o.guard with
 | none=>simp only[ZM o.op a.1]
 | some q=>
   obtain ⟨j,c⟩:=q
   rw[i] at a
   simp only[]
   cases f:(ops[j]?).bind (·.dst) with
   | none=>rfl
   | some e=>
     have b:e≠d:=λh=>by
      have:=a.2
      simp[f,h] at this
     have g:upd T d v e=T e:=by simp[upd,b]
     simp only[g,ZM o.op a.1]
theorem Qn {o z:Oper} {v:AV} (a:∀d,z.dst=some d->jP ops o d=false):vG P ops (zN T z.dst v) o=vG P ops T o:=by
 cases b:z.dst with
 | none=>rfl
 | some d=>exact kga (a d b)
theorem jva {o:Oper} {ob:Ob} {mk:Nat->AV} (a:vG P ops T o=some (some (ob,mk))):ob.isRes=false:=by
 have key:(qo P T o.op).map some=some (some (ob,mk))->ob.isRes=false:=λh=>by
  cases b:qo P T o.op with
  | none=>rw[b] at h;cases h
  | some q=>rw[b] at h;injection h with h;injection h with h;subst h;exact Wy b
 unfold vG at a
 split at a
 ·exact key a
 ·split at a
  ·split at a
   ·split at a
    ·exact key a
    ·injection a with a;cases a
   ·injection a with a;cases a
   ·cases a
  ·cases a
theorem KV {o:Oper} (k:xX P T h o K):∃v h',K (zN T o.dst v) h'/\ResK h h':=by
 unfold xX at k
 split at k
 ·rename_i x h' a;exact ⟨x,h',k,(wl (φ:=λ_=> .res) (λ_ _=>rfl) _ a).2⟩
 ·split at k
  ·split at k
   ·obtain ⟨_,⟨r,h',k2,k3⟩,_⟩:=k;exact ⟨r,h',k2,k3⟩
   ·exact k.elim
  ·exact k.elim
theorem Xp {o:Oper} (k:j5 P ops o K T h):∃v h',K (zN T o.dst v) h'/\ResK h h':=by
 unfold j5 jz at k
 split at k
 ·exact KV k
 ·rename_i j a d
  split at k
  ·split at k
   ·rename_i b _
    by_cases c:b=a
    ·exact KV (k.1 c)
    ·exact ⟨_,h,k.2 c,.refl⟩
   ·exact ⟨_,h,k,.refl⟩
   ·exact k.elim
  ·exact k.elim
theorem kha {o:Oper} {id:Nat} {ob:Ob} (k:xX P T h o K) (d:h[id]? =some .res) (g:ob.isRes=false) (f:∀v h',ResK h h'->K (zN T o.dst v) h'->K' (zN T o.dst v) (h'.set id ob)):xX P T (h.set id ob) o K':=
 Zg (wja k d g) λi j ⟨h',c,b,⟨v,e⟩,a⟩=>by subst c e;exact f v h' a b
section
variable {kk:IntKind} {n n':Int} {v v':AV}
theorem vH (a:n≠n'):∀(es:List (AV × AV)),jy n' (qE kk n v es)=jy n' es
 | []=>by simp[qE,jy,jJ,a]
 | e::r=>by
   unfold qE
   split
   ·simp[jy,jJ,a]
   ·simp[jy,vH a r]
theorem kw (a:n≠n'):∀(es:List (AV × AV)),jy n' (qV kk n v es)=jy n' es
 | []=>rfl
 | e::r=>by
   unfold qV
   split
   ·rename_i h
    have k1:jJ (.v (.int kk n),v)=n:=rfl
    simp[jy,k1,kw a r,h]
   ·simp[jy,kw a r]
theorem qBa (a:n≠n'):∀(es:List (AV × AV)),qV kk n v (qV kk n' v' es)=qV kk n' v' (qV kk n v es)
 | []=>rfl
 | e::r=>by
   have k1:jJ (.v (.int kk n),v)=n:=rfl
   have k2:jJ (.v (.int kk n'),v')=n':=rfl
   have b:=qBa a r
   by_cases c:jJ e=n
   ·simp[qV,c,a,k1,b]
   ·by_cases d:jJ e=n'
    ·simp[qV,d,show n'≠n from λe=>a e.symm,k2,b]
    ·simp[qV,c,d,b]
theorem VN (a:n≠n'):∀(es:List (AV × AV)),qV kk n v (qE kk n' v' es)=qE kk n' v' (qV kk n v es)
 | []=>by
   have k2:jJ (.v (.int kk n'),v')=n':=rfl
   simp[qV,qE,k2,show n'≠n from λe=>a e.symm]
 | e::r=>by
   have k1:jJ (.v (.int kk n),v)=n:=rfl
   have k2:jJ (.v (.int kk n'),v')=n':=rfl
   have d:=VN a r
   by_cases c:jJ e=n
   ·by_cases b:n'<n
    ·simp[qV,qE,c,k1,k2,b,show n'≠n from λe=>a e.symm]
    ·simp[qV,qE,c,k1,b,d]
   ·by_cases b:n'<jJ e
    ·simp[qV,qE,c,k2,b,show n'≠n from λe=>a e.symm]
    ·simp[qV,qE,c,b,d]
theorem zla:∀ {es:List (AV × AV)},jV kk (qE kk n v es)=jV kk es:=by
 intro es
 rw[Bool.eq_iff_iff,qQ,qQ]
 constructor
 ·exact λh q a=>h q ((wj es).mem_iff.2 (by simp[a]))
 ·intro h q a
  rcases List.mem_cons.1 ((wj es).mem_iff.1 a) with rfl | a
  ·rfl
  ·exact h q a
theorem zma {es:List (AV × AV)} (h:jV kk es=true):jV kk (qV kk n v es)=true:=by
 rw[qQ] at h⊢
 intro q b
 rw[kr,List.mem_map] at b
 obtain ⟨d,e,a⟩:=b
 by_cases c:jJ d=n
 ·rw[if_pos c] at a;subst a;rfl
 ·rw[if_neg c] at a;subst a;exact h _ e
theorem jwa {es g j:List (AV × AV)} (d:n≠n') (i:yB kk n v es=some g) (h:yB kk n' v' g=some j):∃b,yB kk n' v' es=some b/\yB kk n v b=some j:=by
 unfold yB at i
 split at i
 case isFalse=>cases i
 rename_i m
 injection i with i
 have l:jV kk g=true:=by
  unfold yB at h
  split at h
  ·assumption
  ·cases h
 have f:n'≠n:=λe=>d e.symm
 refine ⟨_,by unfold yB;rw[if_pos m],?_⟩
 unfold yB at h⊢
 rw[if_pos l] at h
 have k:jV kk (if jy n' es=true then qV kk n' v' es else qE kk n' v' es)=true:=by
  split
  ·exact zma m
  ·rw[zla];exact m
 rw[if_pos k, <-h, <-i]
 congr 1
 by_cases a:jy n es=true<;>by_cases c:jy n' es=true
 ·simp only[a,c,if_true,kw d,kw f,qBa d]
 ·simp only[a,c,if_true,if_false,Bool.false_eq_true,kw d,vH f,VN d]
 ·simp only[a,c,if_true,if_false,Bool.false_eq_true,vH d,kw f,VN f]
 ·simp only[a,c,if_false,Bool.false_eq_true,vH d,vH f,Jj d]
end
theorem Xq {t:TypeId} {a:Tmp} {kk:IntKind} {n:Int} {v:Operand} {u:AV} {h':List Ob} (b:zn P T h (.insert t (.tmp a) (.const (.int kk n)) v)=some (u,h')):
  ∃ id es es',T a= .mp id/\h[id]? =some (.mapo es)/\yB kk n (ev T v) es=some es'/\u= .v undef/\h'=h.set id (.mapo es')/\
    ∀e g k f n2,e[id]? =some (.mapo g)->yB kk n2 (ev T f) g=some k->zn P T e (.insert t (.tmp a) (.const (.int kk n2)) f)=some (.v undef,e.set id (.mapo k)):=by
 simp only[zn,show ev T (.tmp a)=T a from rfl,show ev T (.const (.int kk n))= .v (.int kk n) from rfl] at b
 split at b
 ·rename_i s r id kk' n' p l c
  injection c with c
  injection c with hk1 hk2
  subst hk1 hk2
  split at b
  ·rename_i d es i q
   split at b
   ·rename_i heq
    subst heq
    cases j:yB d n (ev T v) es with
    | none=>rw[j] at b;cases b
    | some es'=>
      rw[j] at b
      injection b with b;injection b with hx1 hx2;subst hx1 hx2
      refine ⟨id,es,es',l,q,j,rfl,rfl,λe g k f n2 m o=>?_⟩
      simp only[zn,show ev T (.tmp a)=T a from rfl,show ev T (.const (.int d n2))= .v (.int d n2) from rfl,p,l,i,m,if_true,o]
      rfl
   ·cases b
  ·cases b
 ·cases b
theorem kia (c:VM x y=true) (ha:WB ops x y=true) (g:p.2.2=[]) (G:q.2.2=[]) (k:jA P ops b p x (jA P ops b q y K) T h):jA P ops b (q.1,q.2.1,[]) y (jA P ops b p x K) T h:=by
 obtain ⟨l,H⟩:=Xo ha
 obtain ⟨A,τ,xt,xp,xa,R⟩:=x
 obtain ⟨C,α,yt,S,ya,M⟩:=y
 unfold VM at c
 simp only at c
 split at c
 case h_2=>cases c
 rename_i t m k1 n v t' m' k2 n' v'
 simp only[Bool.and_eq_true,beq_iff_eq,bne_iff_ne,ne_eq] at c
 obtain ⟨⟨⟨⟨⟨j,ht⟩,hk⟩,W⟩,i⟩,B⟩:=c
 subst ht hk
 split at j
 case h_2=>cases j
 rename_i a a'
 have j:a=a':=by simpa using j
 subst j
 have i:R=none:=by cases R<;>simp_all
 have B:M=none:=by cases M<;>simp_all
 subst i B
 have c3:∀z w,cls (.insert t (.tmp a) z w)≠3:=λz w=>by simp[cls]
 have e:∀(q:Ent) (o:Oper) (K:Env->List Ob->Prop) (T:Env) (h:List Ob) (z w:Operand),q.2.2=[]->o.op= .insert t (.tmp a) z w->o.guard=none->(jA P ops b q o K T h↔∃u h',zn P T h o.op=some (u,h')/\K (zN T o.dst u) h'):=λq o K T h z w hq N hg=>by
  rw[xS (by rw[N];exact c3 z w),hq]
  simp only[qq,true_and,j5,jz,hg,kca,xX]
  cases he:zn P T h o.op with
  | none=>simp[N]
  | some r=>obtain ⟨u,h'⟩:=r;simp only[Option.some.injEq,Prod.mk.injEq];exact ⟨λk=>⟨u,h',⟨rfl,rfl⟩,k⟩,λ⟨_,_,⟨E,s⟩,k⟩=>by subst E s;exact k⟩
 rw[e p _ _ T h _ _ g rfl rfl] at k
 obtain ⟨u,h1,E,k⟩:=k
 rw[e q _ _ _ h1 _ _ G rfl rfl] at k
 obtain ⟨u',h2,s,k⟩:=k
 have hy:∀u h,zn P (zN T A u) h (.insert t (.tmp a) (.const (.int k1 n')) v')=zn P T h (.insert t (.tmp a) (.const (.int k1 n')) v'):=λu h=>by
  cases D:A with
  | none=>rfl
  | some d=>
    have:=(l d D).1
    unfold jP at this
    rw[Bool.or_eq_false_iff] at this
    exact ku _ this.1
 have V:∀u h,zn P (zN T C u) h (.insert t (.tmp a) (.const (.int k1 n)) v)=zn P T h (.insert t (.tmp a) (.const (.int k1 n)) v):=λu h=>by
  cases D:C with
  | none=>rfl
  | some d=>
    have:=(H d D).1
    unfold jP at this
    rw[Bool.or_eq_false_iff] at this
    exact ku _ this.1
 simp only at E s
 rw[hy] at s
 obtain ⟨id,es,σ,U,J,m3,Y,m5,Q⟩:=Xq E
 obtain ⟨η,es',I,F,f,o3,Z,X,o6⟩:=Xq s
 rw[U] at F
 injection F with F
 subst F Y Z m5
 rw[List.getElem?_set_self (j8 J)] at f
 injection f with f
 injection f with f
 subst f
 obtain ⟨O,i1,i2⟩:=jwa W m3 o3
 rw[e (q.1,q.2.1,[]) _ _ T h _ _ rfl rfl rfl]
 refine ⟨.v undef,_,Q h es O v' n' J i1,?_⟩
 rw[e p _ _ _ _ _ _ g rfl rfl]
 simp only
 rw[V]
 refine ⟨.v undef,_,Q _ O I v n (by rw[List.getElem?_set_self (j8 J)]) i2,?_⟩
 rw[List.set_set]
 subst X
 rw[List.set_set] at k
 have L:zN (zN T A (.v undef)) C (.v undef)=zN (zN T C (.v undef)) A (.v undef):=JW (x:=⟨A,.insert t (.tmp a) (.const (.int k1 n)) v,xt,xp,xa,none⟩) (y:=⟨C,.insert t (.tmp a) (.const (.int k1 n')) v',yt,S,ya,none⟩) λd D=>(l d D).2
 simp only at k
 rw[L] at k
 exact k
theorem VO {op:Op} {mk:Nat->AV} {ob:Ob} (a:qo P T op=some (ob,mk)) (b:WC op=true):∀es,ob≠ .mapo es:=by
 intro es e
 subst e
 cases op<;>simp only[WC] at b<;>first
  | cases b;done
  | skip
 all_goals
  simp only[qo] at a
  repeat' split at a
 all_goals first
  | cases a;done
  | (simp only[Option.map_eq_some_iff,Prod.mk.injEq] at a;obtain ⟨_,_,h,_⟩:=a;cases h;done)
theorem zna {o:Oper} {ob:Ob} {mk:Nat->AV} (a:vG P ops T o=some (some (ob,mk))) (b:WC o.op=true):∀es,ob≠ .mapo es:=by
 have key:(qo P T o.op).map some=some (some (ob,mk))->∀es,ob≠ .mapo es:=λh=>by
  cases c:qo P T o.op with
  | none=>rw[c] at h;cases h
  | some q=>rw[c] at h;injection h with h;injection h with h;subst h;exact VO c b
 unfold vG at a
 split at a
 ·exact key a
 ·split at a
  ·split at a
   ·split at a
    ·exact key a
    ·injection a with a;cases a
   ·injection a with a;cases a
   ·cases a
  ·cases a
theorem jxa {id:Nat} {ob:Ob} {t:TypeId} {m k v:Operand} {u:AV} {l:List Ob} (i:∀es,ob≠ .mapo es) (a:zn P T (h.set id ob) (.insert t m k v)=some (u,l)) (o:h[id]? =some .res):
  ∃h',zn P T h (.insert t m k v)=some (u,h')/\l=h'.set id ob/\h'[id]? =some .res:=by
 simp only[zn] at a⊢
 split at a
 ·rename_i r p f kk n s q j
  split at a
  ·rename_i kk' es g d
   have c:id≠f:=λe=>by
    subst e
    rw[List.getElem?_set_self (List.getElem?_eq_some_iff.1 o).1] at d
    injection d with d
    exact i es d
   rw[List.getElem?_set_ne c] at d
   split at a
   ·rename_i heq
    simp only[g,d,if_pos heq]
    cases b:yB kk' n (ev T v) es with
    | none=>subst heq;rw[b] at a;cases a
    | some es'=>
      subst heq
      rw[b] at a
      injection a with a;injection a with hx1 hx2;subst hx1 hx2
      refine ⟨_,by rw[b];rfl,by rw[List.set_comm _ _ c],by rw[List.getElem?_set_ne (λe=>c e.symm)];exact o⟩
   ·cases a
  ·cases a
 ·cases a
theorem zoa (i:kfa x y=true) (U:WB ops x y=true) (L:p.2.2=[]) (n:q.2.2=[]) (k:jA P ops b p x (jA P ops b q y K) T h):jA P ops b (q.1,q.2.1,[]) y (jA P ops b p x K) T h:=by
 obtain ⟨j,F⟩:=Xo U
 simp only[kfa,Bool.and_eq_true] at i
 obtain ⟨⟨A,H⟩,G⟩:=i
 have f:cls x.op=3:=by
  generalize x.op=op at A
  cases op<;>simp only[WC] at A<;>first
   | rfl
   | cases A
 obtain ⟨g,D,I,C,E,J⟩:=y
 simp only at H G
 have G:J=none:=by cases J<;>simp_all
 subst G
 cases D<;>simp only[yIa] at H<;>first
  | cases H;done
  | skip
 rename_i t m kk v
 have B:cls (.insert t m kk v)≠3:=by simp[cls]
 have a:∀(q:Ent) (K:Env->List Ob->Prop) (T:Env) (h:List Ob),q.2.2=[]->(jA P ops b q ⟨g,.insert t m kk v,I,C,E,none⟩ K T h↔∃u h',zn P T h (.insert t m kk v)=some (u,h')/\K (zN T g u) h'):=λq K T h Q=>by
  rw[xS B,Q]
  simp only[qq,true_and,j5,jz,kca,xX]
  cases W:zn P T h (.insert t m kk v) with
  | none=>simp
  | some r=>obtain ⟨u,h'⟩:=r;simp only[Option.some.injEq,Prod.mk.injEq];exact ⟨λk=>⟨u,h',⟨rfl,rfl⟩,k⟩,λ⟨_,_,⟨e,M⟩,k⟩=>by subst e M;exact k⟩
 have c:∀w h,zn P (zN T x.dst w) h (.insert t m kk v)=zn P T h (.insert t m kk v):=λw h=>by
  cases s:x.dst with
  | none=>rfl
  | some d=>
    have:=(j d s).1
    unfold jP at this
    rw[Bool.or_eq_false_iff] at this
    exact ku _ this.1
 have o:∀u w,zN (zN T x.dst u) g w=zN (zN T g w) x.dst u:=λu w=>JW (y:=⟨g,.insert t m kk v,I,C,E,none⟩) λd s=>(j d s).2
 have l:∀w,vG P ops (zN T g w) x=vG P ops T x:=λw=>Qn (z:=⟨g,.insert t m kk v,I,C,E,none⟩) λd s=>(F d s).1
 rw[xl f,jn] at k
 rw[a _ _ T h rfl]
 cases hex:vG P ops T x with
 | none=>rw[hex] at k;exact k.elim
 | some ex=>
   rw[hex] at k
   cases ex with
   | none=>
     simp only at k
     rw[a _ _ _ _ n] at k
     obtain ⟨u,h',e,k⟩:=k
     rw[c] at e
     refine ⟨u,h',e,?_⟩
     rw[xl f,jn,l,hex]
     simp only
     rw[<-o]
     exact k
   | some O=>
     obtain ⟨ob,mk⟩:=O
     simp only at k
     obtain ⟨k1,k2⟩:=k
     rw[a _ _ _ _ n] at k2
     obtain ⟨u,h',e,k2⟩:=k2
     rw[c] at e
     obtain ⟨R,V,N,S⟩:=jxa (zna hex A) e k1
     refine ⟨u,R,V,?_⟩
     rw[xl f,jn,l,hex]
     simp only
     rw[<-o]
     subst N
     exact ⟨S,k2⟩
theorem QKa {l2:List Nat} (I:ops[p.1]? =some x) (hs:wV ops p q x y=true) (hp:cls x.op≠2->p.2.2=[]) (hq:cls y.op≠2->q.2.2=[]) (U:ops[q.1]? =some y)
  (A:∀l∈l2,l∈q.2.2/\xk ops l p.1=true) (Y:∀l∈p.2.2,xk ops l q.1=true) (ξ:∀l,l∈q.2.2->l∉l2->l=p.1)
  (hr:cls y.op=3->h[b+q.2.1]? =some .res) (ε:cls x.op=3->cls y.op=3->p.2.1≠q.2.1) (M:p.1∈q.2.2->∀d,x.dst=some d->jP ops x d=false)
  (k:jA P ops b p x (jA P ops b q y K) T h):jA P ops b (q.1,q.2.1,l2) y (jA P ops b p x K) T h:=by
 simp only[wV,Bool.and_eq_true,Bool.or_eq_true,beq_iff_eq,bne_iff_ne,ne_eq,decide_eq_true_eq] at hs
 obtain ⟨ha,hs⟩:=hs
 obtain ⟨s,C⟩:=Xo ha
 have O:cls y.op=3->jA P ops b (q.1,q.2.1,l2) y (jA P ops b p x K) T h:=λhy=>by
  have S:=hr hy
  rw[xl hy,jn]
  have i:∀v h',jA P ops b q y K (zN T x.dst v) h'↔match vG P ops T y with
    | some (some (ob,mk))=>h'[b+q.2.1]? =some .res/\K (zN (zN T x.dst v) y.dst (mk (b+q.2.1))) (h'.set (b+q.2.1) ob)
    | some none=>K (zN (zN T x.dst v) y.dst (.v undef)) h'
    | none=>False:=λv h'=>by
   rw[xl hy,jn,Qn (λd c=>(s d c).1)]
  have J:∀u v,zN (zN T x.dst u) y.dst v=zN (zN T y.dst v) x.dst u:=λu v=>JW λd c=>(s d c).2
  have F:∀d,y.dst=some d->jP ops x d=false:=λd c=>(C d c).1
  by_cases G:cls x.op=3
  ·rw[xl G,jn] at k
   have H:vG P ops (zN T y.dst (.v undef)) x=vG P ops T x/\∀v,vG P ops (zN T y.dst v) x=vG P ops T x:=⟨Qn F,λv=>Qn F⟩
   cases hex:vG P ops T x with
   | none=>rw[hex] at k;exact k.elim
   | some ex=>
     rw[hex] at k
     have L:b+p.2.1≠b+q.2.1:=λe=>ε G hy (by omega)
     cases ex with
     | none=>
       simp only at k
       rw[i] at k
       cases g:vG P ops T y with
       | none=>rw[g] at k;exact k.elim
       | some Z=>cases Z with
         | none=>simp only[g] at k ⊢;rw[xl G,jn,H.2,hex];simp only;rw[<-J];exact k
         | some X=>obtain ⟨ob,mk⟩:=X;simp only[g] at k ⊢;refine ⟨S,?_⟩;rw[xl G,jn,H.2,hex];simp only;rw[<-J];exact k.2
     | some ox=>
       obtain ⟨ox,mx⟩:=ox
       simp only at k
       obtain ⟨k1,k2⟩:=k
       rw[i] at k2
       cases g:vG P ops T y with
       | none=>rw[g] at k2;exact k2.elim
       | some Z=>cases Z with
         | none=>simp only[g] at k2 ⊢;rw[xl G,jn,H.2,hex];simp only;rw[<-J];exact ⟨k1,k2⟩
         | some X=>
           obtain ⟨ob,mk⟩:=X
           simp only[g] at k2⊢
           refine ⟨S,?_⟩
           rw[xl G,jn,H.2,hex]
           simp only
           rw[<-J,List.getElem?_set_ne (λe=>L e.symm),List.set_comm _ _ (λe=>L e.symm)]
           exact ⟨k1,k2.2⟩
  ·rw[xS G] at k
   obtain ⟨v0,h0,k0,_⟩:=Xp k
   have k0:=(i v0 h0).1 k0.2
   cases g:vG P ops T y with
   | none=>rw[g] at k0;exact k0.elim
   | some Z=>cases Z with
     | none=>
       simp only
       rw[xS G]
       have:j5 P ops x (λj a=>qq P ops j a p.2.2/\K (zN j y.dst (.v undef)) a) T h:=jm (wE k) λj a ⟨⟨f,m⟩,⟨v,e⟩,_⟩=>by
        subst e
        refine ⟨f,?_⟩
        have:=(i v a).1 m
        rw[g] at this
        exact this
       have δ:j5 P ops x (λj a=>qq P ops j a p.2.2/\K j a) (zN T y.dst (.v undef)) h:=by
        cases c:y.dst with
        | none=>
          rw[c] at this
          exact this
        | some d=>
          rw[c] at this
          show j5 P ops x _ (upd T d (.v undef)) h
          rw[Zh (C d c).1 (C d c).2]
          refine jm this λj a ⟨f,m⟩=>⟨?_,m⟩
          rw[qW] at f⊢
          intro l t
          have:=(Zi (P:=P) (T:=j) (h:=a) (v:= .v undef) (p:=q) U (Y l t)).2 (f l t)
          rw[c] at this
          exact this
       exact δ
     | some X=>
       obtain ⟨ob,mk⟩:=X
       simp only
       refine ⟨S,?_⟩
       have Q:=jva g
       rw[xS G]
       have key:j5 P ops x (λj a=>qq P ops j a p.2.2/\K (zN j y.dst (mk (b+q.2.1))) a) T (h.set (b+q.2.1) ob):=by
        refine VL k (λk=>kha k S Q λv h' ι ⟨f,m⟩=>?_) λ⟨f,m⟩=>?_
        ·have m:=(i v h').1 m
         rw[g] at m
         refine ⟨?_,m.2⟩
         rw[qW] at f⊢
         exact λl t=>WG (f l t) (ι _ S) Q
        ·have m:=(i _ h).1 m
         rw[g] at m
         refine ⟨?_,m.2⟩
         rw[qW] at f⊢
         exact λl t=>WG (f l t) S Q
       cases c:y.dst with
       | none=>rw[c] at key;exact key
       | some d=>
         rw[c] at key
         show j5 P ops x _ (upd T d (mk (b+q.2.1))) (h.set (b+q.2.1) ob)
         rw[Zh (C d c).1 (C d c).2]
         refine jm key λj a ⟨f,m⟩=>⟨?_,m⟩
         rw[qW] at f⊢
         intro l t
         have:=(Zi (P:=P) (T:=j) (h:=a) (v:=mk (b+q.2.1)) (p:=q) U (Y l t)).2 (f l t)
         rw[c] at this
         exact this
 rcases hs with (((((⟨θ,N⟩ | ⟨κ,W⟩) | N) | ⟨⟨κ,σ⟩,w⟩) | ⟨⟨E,B⟩,n⟩) | ⟨⟨E,B⟩,n⟩)
 ·
  have o:=hp (by omega)
  rw[jG (by omega) o] at k
  obtain ⟨D,h1,a⟩:=k
  rw[xS N] at a⊢
  have R:j5 P ops y (λj a=>qq P ops j a l2/\K (zN j x.dst D) a) T h:=by
   cases c:x.dst with
   | none=>rw[c] at a;exact jm a λj a ⟨f,m⟩=>⟨by rw[qW] at f ⊢;exact λl t=>f l (A l t).1,m⟩
   | some d=>
     rw[c] at a
     have a:j5 P ops y _ (upd T d D) h:=a
     rw[Zh (s d c).1 (s d c).2] at a
     refine jm a λj a ⟨f,m⟩=>⟨?_,m⟩
     rw[qW] at f⊢
     intro l t
     have:=f l (A l t).1
     refine (Zi (P:=P) (T:=j) (h:=a) (v:=D) I (A l t).2).1 ?_
     rw[c];exact this
  refine jm (wE R) λj a ⟨⟨f,m⟩,⟨v,e⟩,_⟩=>⟨f,?_⟩
  subst e
  refine (jG (by omega) o).2 ⟨D,?_,m⟩
  rw[Qm λd c=>(C d c).1,jsa θ a h]
  exact h1
 ·have o:=hp (by omega)
  have V:=hq (by omega)
  have z:l2=[]:=by
   cases l2 with
   | nil=>rfl
   | cons l r=>have:=(A l (by simp)).1;rw[V] at this;cases this
  subst z
  rw[jG (by omega) o] at k
  obtain ⟨D,h1,a⟩:=k
  rw[jG W V] at a
  obtain ⟨vy,R,h4⟩:=a
  rw[Qm λd c=>(s d c).1] at R
  refine (jG (q:=(q.1,q.2.1,[])) W rfl).2 ⟨vy,R,(jG (by omega) o).2 ⟨D,?_,?_⟩⟩
  ·rw[Qm λd c=>(C d c).1];exact h1
  ·rw[<-JW λd c=>(s d c).2];exact h4
 ·exact O N
 ·
  have o:=hp (by omega)
  rw[jG (by omega) o] at k
  obtain ⟨D,h1,a⟩:=k
  rw[xS (by omega)] at a⊢
  have w:p.1∈q.2.2:=by simpa using w
  have R:j5 P ops y (λj a=>(qq P ops j a l2/\wC P ops j a x=some D)/\K (zN j x.dst D) a) T h:=by
   have η:∃d,x.dst=some d:=by
    obtain ⟨v0,h0,⟨f,_⟩,_⟩:=Xp a
    rw[qW] at f
    have:=f p.1 w
    unfold kY at this
    rw[I] at this
    simp only at this
    cases c:x.dst with
    | none=>rw[c] at this;exact this.elim
    | some d=>exact ⟨d,rfl⟩
   obtain ⟨d,c⟩:=η
   rw[c] at a⊢
   have a:j5 P ops y _ (upd T d D) h:=a
   rw[Zh (s d c).1 (s d c).2] at a
   refine jm (wE a) λj a ⟨⟨f,m⟩,⟨v,e⟩,_⟩=>⟨⟨?_,?_⟩,m⟩
   ·rw[qW] at f⊢
    intro l t
    have:=f l (A l t).1
    refine (Zi (P:=P) (T:=j) (h:=a) (v:=D) I (A l t).2).1 ?_
    rw[c];exact this
   ·rw[qW] at f
    have:=f p.1 w
    unfold kY at this
    rw[I] at this
    simp only[c] at this
    rw[WD (M w d c)] at this
    rw[this];simp[upd]
  refine jm (wE R) λj a ⟨⟨⟨f,q0⟩,m⟩,⟨v,e⟩,_⟩=>⟨f,?_⟩
  exact (jG (by omega) o).2 ⟨D,q0,m⟩
 ·
  have B:p.2.2=[]:=by simpa using B
  have n:q.2.2=[]:=by simpa using n
  have z:l2=[]:=by
   cases l2 with
   | nil=>rfl
   | cons l r=>have:=(A l (by simp)).1;rw[n] at this;cases this
  subst z
  exact kia E ha B n k
 ·have B:p.2.2=[]:=by simpa using B
  have n:q.2.2=[]:=by simpa using n
  have z:l2=[]:=by
   cases l2 with
   | nil=>rfl
   | cons l r=>have:=(A l (by simp)).1;rw[n] at this;cases this
  subst z
  exact zoa E ha B n k
end
end Go.Proofs.YtigdlmpjijhpaaaGreat.Ax
