/-
  Joined.
-/
import Derived.Test.YtfmldcilgbbimaaGreatK07
set_option linter.unusedSimpArgs false
set_option linter.unusedVariables false
namespace Go.Proofs.YtfmldcilgbbimaaGreat.Ax
open Go Go.RowKit
abbrev Ent:=Nat × Nat × List Nat
def kP (P:Program) (ops:Array Oper) (T:Env) (h:List Ob) (l:Nat):Prop:=match ops[l]? with
 | some o=>match o.dst with
   | some d=>ww P ops T h o=some (T d)
   | none=>False
 | none=>False
def qj (P:Program) (ops:Array Oper) (T:Env) (h:List Ob):List Nat->Prop
 | []=>True
 | l::r=>kP P ops T h l/\qj P ops T h r
def ju (P:Program) (ops:Array Oper) (b:Nat) (q:Ent) (o:Oper) (K:Env->List Ob->Prop) (T:Env) (h:List Ob):Prop:=
 if cls o.op=3 then Xh P ops (b+q.2.1) o K T h else jU P ops o (λT h=>qj P ops T h q.2.2/\K T h) T h
def wpE (P:Program) (ops:Array Oper) (b:Nat) (K:Env->List Ob->Prop):List Ent->Env->List Ob->Prop
 | [],T,h=>K T h
 | q::r,T,h=>match ops[q.1]? with
   | some o=>ju P ops b q o (wpE P ops b K r) T h
   | none=>False
def kn (o:Oper):List Nat:=(o.after.toList.filter (Region.binds .any)).map (·.on)
def wx (ops:Array Oper):Nat->Nat->Nat->Bool
 | 0,j,i=>match ops[i]? with
   | some o=>(kn o).contains j
   | none=>false
 | f+1,j,i=>match ops[i]? with
   | some o=>(kn o).contains j || (kn o).any λk=>decide (j<k) && wx ops f j k
   | none=>false
def VE (x y:Oper):Bool:=match x.op,y.op with
 | .insert t m (.const (.int k n)) _,.insert c d (.const (.int k' n')) _=>(match m,d with
   | .tmp a,.tmp b=>a==b
   | _,_=>false) && t==c && k==k' && n != n' && x.guard.isNone && y.guard.isNone
 | _,_=>false
def Ws:Op->Bool
 | .alloc .. | .box .. | .buildSlice .. | .makeSlice .. =>true
 | _=>false
def yka:Op->Bool
 | .insert .. =>true
 | _=>false
def xWa (x y:Oper):Bool:=Ws x.op && yka y.op && y.guard.isNone
def xc (ops:Array Oper) (l p:Nat):Bool:=match ops[l]?,ops[p]? with
 | some a,some b=>match b.dst with
   | some d=> !jH ops a d && a.dst != some d
   | none=>true
 | _,_=>false
def wO (ops:Array Oper) (p q:Ent) (x y:Oper):Bool:=Wr ops x y &&
 ((cls x.op==0 && cls y.op != 3) || (cls x.op==1 && decide (cls y.op<=1)) || cls y.op==3 || (cls x.op==1 && cls y.op==2 && q.2.2.contains p.1) || (VE x y && p.2.2.isEmpty && q.2.2.isEmpty) || (xWa x y && p.2.2.isEmpty && q.2.2.isEmpty))
def kC (ops:Array Oper) (p q:Ent):Bool:=match ops[p.1]?,ops[q.1]? with
 | some x,some y=>(wx ops 8 p.1 q.1 || wO ops p q x y) && !wx ops 8 q.1 p.1 && !p.2.2.contains q.1 && (cls x.op != 3 || cls y.op != 3 || p.2.1 != q.2.1)
 | _,_=>false
def Qe (ops:Array Oper):List Ent->Bool
 | []=>true
 | x::r=>r.all (kC ops x) && Qe ops r
def QH (ops:Array Oper):Nat->List Oper->Bool
 | _,[]=>true
 | i,o::r=>(kn o).all (λj=>decide (j<i)) && QH ops (i+1) r
def wg (ops:Array Oper) (l:Nat):Bool:=(match ops[l]? with
 | some o=>decide (cls o.op<=1) && (match o.dst with
   | some d=> !jH ops o d
   | none=>false)
 | none=>false) && (List.range ops.size).all λp=>p==l || wx ops 8 p l || xc ops l p
def qha (ops:Array Oper) (k:Nat) (q:Ent):Bool:=match ops[q.1]? with
 | some o=>(cls o.op==2 || q.2.2.isEmpty) && (cls o.op != 3 || decide (q.2.1<k)) && !q.2.2.contains q.1 && q.2.2.all (wg ops)
 | none=>false
def Xi (ops:Array Oper) (k:Nat) (a:List Ent):Bool:=
 Qe ops a && QH ops 0 ops.toList && a.all (qha ops k) && (List.range ops.size).all (λi=>(a.map (·.1)).contains i) && decide (a.map (·.1)).Nodup && decide (a.length<=ops.size)
section
variable {P:Program} {N:Nat} {B:Bs} {ops:Array Oper} {T:Env} {h:List Ob} {K K':Env->List Ob->Prop} {b:Nat} {p q:Ent} {x y:Oper}
theorem qN {l:List Nat}:qj P ops T h l↔∀i∈l,kP P ops T h i:=by
 induction l with
 | nil=>simp[qj]
 | cons i l a=>simp[qj,a]
theorem KN {o:Oper} (a:cls o.op<=1):xS P T h o K↔∃x,(zn P T h o.op).map (·.1)=some x/\K (zL T o.dst x) h:=by
 unfold xS
 cases d:zn P T h o.op with
 | some q=>
   obtain ⟨x,h'⟩:=q
   have:=YY a d
   subst this
   simp
 | none=>
   simp only[Option.map_none]
   constructor
   ·intro k
    generalize o.op=op at k a d
    cases op<;>first
     | exact k.elim
     | skip
    rename_i c
    obtain ⟨callee,args,f⟩:=c
    cases callee with
    | builtin b=>exact k.elim
    | value x=>simp[cls] at a
    | invoke r m=>exact k.elim
   ·rintro ⟨x,e,_⟩;cases e
theorem YZ {o:Oper} (c:cls o.op<=1):jU P ops o K T h↔∃x,ww P ops T h o=some x/\K (zL T o.dst x) h:=by
 unfold jU jt ww xTa
 cases o.guard with
 | none=>exact KN c
 | some q=>
   obtain ⟨j,a⟩:=q
   simp only[]
   cases (ops[j]?).bind (·.dst) with
   | none=>simp
   | some d=>
     simp only[]
     split
     ·rename_i b _
      by_cases e:b=a
      ·subst e
       simp only[true_implies,ne_eq,not_true_eq_false,false_implies,and_true,if_true]
       exact KN c
      ·simp[e]
     ·simp
     ·simp
theorem jaa {op:Op} (a:cls op=0) (h h':List Ob):(zn P T h op).map (·.1)=(zn P T h' op).map (·.1):=by
 cases op<;>simp only[cls] at a<;>try (omega;done)
 case binOp op t y z u=>
  have e:¬ yY z=true:=λh=>by rw[if_pos h] at a;omega
  simp only[zn,if_neg e]
  simp[Option.map_map,Function.comp_def]
 case build t ps=>
  simp only[zn]
  repeat' split
  all_goals first | rfl | skip
  all_goals
   cases (zi P t).zero with
   | none=>rfl
   | some z=>simp only[Option.bind_some];simp[Option.map_map,Function.comp_def]
 case fieldAddr t y i=>
  simp only[zn]
  split
  ·rename_i d _
   cases d[i]? with
   | none=>rfl
   | some f=>
     simp only[Option.bind_some]
     split
     ·split<;>rfl
     ·rfl
  ·rfl
 case field t y i=>
  simp only[zn]
  split
  ·rename_i d _ _ _
   cases d[i]? with
   | none=>rfl
   | some f=>
     simp only[Option.bind_some]
     split
     ·simp[Option.map_map,Function.comp_def]
     ·rfl
  ·rfl
 case call c=>
  obtain ⟨callee,args,g⟩:=c
  cases callee with
  | builtin b=>
    cases b<;>simp at a
    ·simp only[zn,wu]
     split<;>simp_all [Function.comp_def]
    ·simp only[zn,wu]
     split<;>simp_all [Function.comp_def]
  | value x=>simp at a
  | invoke r m=>simp at a
 all_goals
  simp only[zn]
  repeat' split
 all_goals first | rfl | simp[Option.map_map,Function.comp_def]
theorem jba {o:Oper} (a:cls o.op=0) (h h':List Ob):ww P ops T h o=ww P ops T h' o:=by
 unfold ww
 rw[jaa a h h']
theorem Wt {o:Oper} {d:Nat} {x:AV} (a:jH ops o d=false):ww P ops (upd T d x) h o=ww P ops T h o:=by
 unfold jH at a
 rw[Bool.or_eq_false_iff] at a
 unfold ww
 cases f:o.guard with
 | none=>simp only[km o.op a.1]
 | some q=>
   obtain ⟨j,c⟩:=q
   rw[f] at a
   simp only[]
   cases i:(ops[j]?).bind (·.dst) with
   | none=>rfl
   | some e=>
     have b:e≠d:=λh=>by
      have:=a.2
      simp[i,h] at this
     have g:upd T d x e=T e:=by simp[upd,b]
     simp only[g,km o.op a.1]
theorem Qf {o y:Oper} {v:AV} (a:∀d,y.dst=some d->jH ops o d=false):ww P ops (zL T y.dst v) h o=ww P ops T h o:=by
 cases b:y.dst with
 | none=>rfl
 | some d=>exact Wt (a d b)
theorem JP {x y:Oper} {u v:AV} (a:∀d,x.dst=some d->y.dst≠some d):zL (zL T x.dst u) y.dst v=zL (zL T y.dst v) x.dst u:=by
 cases b:x.dst with
 | none=>rfl
 | some d=>
   have:=a d b
   exact Qd (T:=T) (x:=u) (y:=v) this
theorem Wu {o:Oper} (k:xS P T h o K):xS P T h o λi b=>K i b/\(∃v,i=zL T o.dst v)/\ResK h b:=by
 unfold xS at*
 split
 ·rename_i x h' a
  rw[a] at k
  exact ⟨k,⟨x,rfl⟩,(wc (φ:=λ_=> .res) (λ_ _=>rfl) _ a).2⟩
 ·rename_i a
  rw[a] at k
  clear a
  generalize o.op=op at k⊢
  cases op<;>first
   | exact k.elim
   | skip
  rename_i c
  simp only at k⊢
  cases d:vf T c with
  | none=>rw[d] at k;exact k.elim
  | some q=>
    rw[d] at k
    obtain ⟨k1,⟨r,h',k2,k3⟩,k4⟩:=k
    refine ⟨k1,⟨r,h',⟨k2,⟨r,rfl⟩,k3⟩,k3⟩,λφ m B w g vs s j n=>(k4 φ m B w g vs s j n).mono λe w' ⟨v,r,h',g',p,l,f,t⟩=>⟨v,r,h',g',p,⟨l,⟨r,rfl⟩,f⟩,f,t⟩⟩
theorem wy {o:Oper} (k:jU P ops o K T h):jU P ops o (λb a=>K b a/\(∃v,b=zL T o.dst v)/\ResK h a) T h:=
 yE k Wu λk=>⟨k,⟨_,rfl⟩,.refl⟩
theorem Wv {id:Nat} {ob:Ob} (b:h[id]? =some .res):Upto (λi=>if i=id then ob else .res) h.length:=λi a=>by
 have:=(List.getElem?_eq_some_iff.1 b).1
 exact if_neg (by omega)
theorem yF {φ:Nat->Ob} {id:Nat} {ob:Ob} (b:h[id]? =some .res) (c:ob.isRes=false):fill (λi=>if i=id then ob else φ i) h=fill φ (h.set id ob):=by
 apply List.ext_getElem?
 intro j
 rw[xJ,xJ]
 by_cases a:id=j
 ·subst a
  rw[b,List.getElem?_set_self (List.getElem?_eq_some_iff.1 b).1]
  simp only[Option.map_some,Z1]
  rw[if_pos (show (Ob.res).isRes=true from rfl),if_pos trivial,if_neg (by rw[c];simp)]
 ·rw[List.getElem?_set_ne a]
  cases h[j]? with
  | none=>rfl
  | some o=>simp[Z1,show j≠id from λe=>a e.symm]
theorem Jh {id:Nat} {ob:Ob} (a:h[id]? =some .res) (b:ob.isRes=false):fill (λi=>if i=id then ob else .res) h=h.set id ob:=by
 rw[yF (φ:=λ_=> .res) a b,KA]
theorem KO {id:Nat} {ob:Ob} {op:Op} {x:AV} {h':List Ob} (e:zn P T h op=some (x,h')) (a:h[id]? =some .res) (d:ob.isRes=false):zn P T (h.set id ob) op=some (x,h'.set id ob)/\ResK h h':=by
 obtain ⟨c,b⟩:=wc (Wv (ob:=ob) a) op e
 rw[Jh a d,Jh (b id a) d] at c
 exact ⟨c,b⟩
theorem vWa {o:Oper} {id:Nat} {ob:Ob} {v:AV} (a:ww P ops T h o=some v) (k:h[id]? =some .res) (l:ob.isRes=false):ww P ops T (h.set id ob) o=some v:=by
 have key:∀v,(zn P T h o.op).map (·.1)=some v->(zn P T (h.set id ob) o.op).map (·.1)=some v:=λv b=>by
  cases e:zn P T h o.op with
  | none=>rw[e] at b;cases b
  | some q=>
    obtain ⟨y,h'⟩:=q
    rw[e] at b
    rw[(KO e k l).1]
    exact b
 unfold ww at*
 cases f:o.guard with
 | none=>simp only[f] at a ⊢;exact key v a
 | some q=>
   obtain ⟨j,g⟩:=q
   simp only[f] at a⊢
   cases i:(ops[j]?).bind (·.dst) with
   | none=>simp only[i] at a;cases a
   | some d=>
     simp only[i] at a⊢
     split at a
     ·split at a
      ·rename_i c;rw[if_pos c];exact key v a
      ·rename_i c;rw[if_neg c];exact a
     ·exact a
     ·cases a
theorem vXa {id:Nat} {ob:Ob} {h':List Ob} (k:ResK h h'):ResK (h.set id ob) (h'.set id ob)∨(h.set id ob)[id]? =some .res:=by
 by_cases b:(h.set id ob)[id]? =some .res
 ·exact .inr b
 ·refine .inl λj a=>?_
  by_cases e:id=j
  ·subst e;exact absurd a b
  ·rw[List.getElem?_set_ne e] at a ⊢;exact k j a
theorem jca {f:FuncId} {aZ:List AV} {R:AV->List Ob->Prop} {id:Nat} {ob:Ob} (c:ACalls P f aZ h R) (a:h[id]? =some .res) (d:ob.isRes=false):ACalls P f aZ (h.set id ob) λr h''=>∃h',h''=h'.set id ob/\R r h'/\ResK h h':=by
 have m:=(List.getElem?_eq_some_iff.1 a).1
 have o:(h.set id ob)[id]? ≠some .res:=λe=>by
  rw[List.getElem?_set_self m] at e;injection e with e;subst e;cases d
 have b:∀h',ResK h h'->ResK (h.set id ob) (h'.set id ob):=λh' k=>by
  rcases vXa (id:=id) (ob:=ob) k with k | k
  ·exact k
  ·exact absurd k o
 obtain ⟨z,⟨r,h',y,p⟩,E⟩:=c
 refine ⟨z,⟨r,h'.set id ob,⟨h',rfl,y,p⟩,b h' p⟩,λφ C B w g vs u A s=>?_⟩
 have l:Upto (λi=>if i=id then ob else φ i) h.length:=λi n=>by
  have:i≠id:=by omega
  simp only[if_neg this]
  exact C i (by simpa using n)
 rw[<-yF a d] at u s
 refine (E _ l B w g vs u A s).mono λe w' ⟨v,r,h',g',D,x,j,t,q⟩=>?_
 rw[yF a d,yF (j id a) d] at t
 rw[yF (j id a) d] at q
 exact ⟨v,r,h'.set id ob,g',D,⟨h',rfl,x,j⟩,b h' j,t,q⟩
theorem vYa {o:Oper} {id:Nat} {ob:Ob} (k:xS P T h o K) (g:h[id]? =some .res) (i:ob.isRes=false):xS P T (h.set id ob) o λj l=>∃h',l=h'.set id ob/\K j h'/\(∃v,j=zL T o.dst v)/\ResK h h':=by
 have k:=Wu k
 unfold xS at k⊢
 split at k
 ·rename_i x h' b
  rw[(KO b g i).1]
  exact ⟨h',rfl,k⟩
 ·rename_i b
  split at k
  ·rename_i c m
   have d:zn P T (h.set id ob) o.op=none:=by
    rw[m] at b⊢
    split at k
    ·rename_i f aZ a
     obtain ⟨callee,args,s⟩:=c
     unfold vf at a
     split at a
     ·rename_i X e;simp only at e;subst e;rfl
     ·cases a
    ·exact k.elim
   rw[d]
   simp only
   split at k
   ·rename_i f aZ a
    exact (jca k g i).mono λr h'' ⟨h',q,⟨n,p,t⟩,_⟩=>⟨h',q,n,p,t⟩
   ·exact k.elim
  ·exact k.elim
theorem Xj (b:Wr ops x y=true):(∀d,x.dst=some d->jH ops y d=false/\y.dst≠some d)/\(∀d,y.dst=some d->jH ops x d=false/\x.dst≠some d):=by
 simp only[Wr,Bool.and_eq_true] at b
 have c:∀d,x.dst=some d->jH ops y d=false/\y.dst≠some d:=λd a=>by
  have:=b.1
  rw[a] at this
  simpa using this
 refine ⟨c,λd a=>⟨?_,λe=>(c d e).2 a⟩⟩
 have:=b.2
 rw[a] at this
 simpa using this
theorem Km {l:Nat} {a:Oper} (f:ops[l]? =some a) (e:ops[p.1]? =some x) (b:xc ops l p.1=true):(∀d,x.dst=some d->jH ops a d=false)/\(∀d,x.dst=some d->a.dst≠some d):=by
 unfold xc at b
 rw[f,e] at b
 simp only at b
 refine ⟨λd c=>?_,λd c=>?_⟩<;>(rw[c] at b;simp at b)
 ·exact b.1
 ·exact b.2
theorem Y0 {d:Nat} {v:AV} (b:x.dst≠some d):zL T x.dst v d=T d:=by
 cases a:x.dst with
 | none=>rfl
 | some e=>simp only[zL,upd];rw[if_neg];intro h;exact b (by rw[a,h])
theorem Za {l:Nat} {v:AV} (c:ops[p.1]? =some x) (f:xc ops l p.1=true):kP P ops (zL T x.dst v) h l↔kP P ops T h l:=by
 unfold kP
 cases i:ops[l]? with
 | none=>simp
 | some a=>
   simp only
   obtain ⟨b,j⟩:=Km i c f
   cases g:a.dst with
   | none=>simp
   | some d=>
     simp only
     rw[Qf b,Y0 λe=>j d e g]
theorem Ww {l id:Nat} {ob:Ob} (k:kP P ops T h l) (e:h[id]? =some .res) (f:ob.isRes=false):kP P ops T (h.set id ob) l:=by
 unfold kP at*
 cases c:ops[l]? with
 | none=>rw[c] at k;exact k
 | some a=>
   rw[c] at k
   simp only at k⊢
   cases b:a.dst with
   | none=>rw[b] at k;exact k
   | some d=>rw[b] at k;exact vWa k e f
theorem xL {o:Oper} (a:cls o.op≠3):ju P ops b q o K T h=jU P ops o (λT h=>qj P ops T h q.2.2/\K T h) T h:=if_neg a
theorem xf {o:Oper} (a:cls o.op=3):ju P ops b q o K T h=Xh P ops (b+q.2.1) o K T h:=if_pos a
theorem jy {o:Oper} (c:cls o.op<=1) (a:q.2.2=[]):ju P ops b q o K T h↔∃x,ww P ops T h o=some x/\K (zL T o.dst x) h:=by
 rw[xL (by omega),a]
 simp only[qj,true_and]
 exact YZ c
theorem jda {id:Nat} {o:Oper} (k:yD P id o K T h):yD P id o (λc b=>K c b/\(∃v,c=zL T o.dst v)/\∀j,j≠id->h[j]? =some .res->b[j]? =some .res) T h:=by
 unfold yD at*
 split
 ·rename_i ob mk a
  rw[a] at k
  exact ⟨k.1,k.2,⟨_,rfl⟩,λj f d=>by rw[List.getElem?_set_ne (λe=>f e.symm)];exact d⟩
 ·rename_i a;rw[a] at k;exact k
theorem Y4 {o:Oper} (k:ju P ops b q o K T h) (d:∀e h',(∀j,(cls o.op=3->j≠b+q.2.1)->h[j]? =some .res->h'[j]? =some .res)->K e h'->K' e h'):ju P ops b q o K' T h:=by
 by_cases c:cls o.op=3
 ·rw[xf c] at k⊢
  refine yE k (λk=>YW (jda k) λi f ⟨k,_,a⟩=>d _ _ (λj g=>a j (g c)) k) (d _ _ λj _ a=>a)
 ·rw[xL c] at k⊢
  exact jf (wy k) λi f ⟨⟨k1,k2⟩,_,a⟩=>⟨k1,d _ _ (λj _=>a j) k2⟩
def vz (P:Program) (ops:Array Oper) (T:Env) (o:Oper):Option (Option (Ob × (Nat->AV))):=match o.guard with
 | none=>(qg P T o.op).map some
 | some (j,a)=>match (ops[j]?).bind (·.dst) with
   | some d=>match T d with
     | .v (.bool b)=>if b=a then (qg P T o.op).map some else some none
     | .v (.tuple _)=>some none
     | _=>none
   | none=>none
theorem jg {id:Nat} {o:Oper}:Xh P ops id o K T h↔match vz P ops T o with
  | some (some (ob,mk))=>h[id]? =some .res/\K (zL T o.dst (mk id)) (h.set id ob)
  | some none=>K (zL T o.dst (.v undef)) h
  | none=>False:=by
 unfold Xh jt vz yD
 cases o.guard with
 | none=>cases qg P T o.op<;>simp
 | some q=>
   obtain ⟨j,a⟩:=q
   simp only[]
   cases (ops[j]?).bind (·.dst) with
   | none=>simp
   | some d=>
     simp only[]
     generalize T d=td
     split
     ·rename_i b
      by_cases c:b=a
      ·subst c
       cases qg P T o.op<;>simp
      ·simp[c]
     ·simp
     ·rename_i n1 n2
      split
      ·rename_i heq
       split at heq
       ·exact absurd rfl (n1 _)
       ·cases heq
       ·cases heq
      ·rename_i heq
       split at heq
       ·exact absurd rfl (n1 _)
       ·exact absurd rfl (n2 _)
       ·cases heq
      ·rfl
theorem xXa {o:Oper} {d:Nat} {v:AV} (a:jH ops o d=false):vz P ops (upd T d v) o=vz P ops T o:=by
 unfold jH at a
 rw[Bool.or_eq_false_iff] at a
 unfold vz
 cases f:o.guard with
 | none=>simp only[ZE o.op a.1]
 | some q=>
   obtain ⟨j,c⟩:=q
   rw[f] at a
   simp only[]
   cases i:(ops[j]?).bind (·.dst) with
   | none=>rfl
   | some e=>
     have b:e≠d:=λh=>by
      have:=a.2
      simp[i,h] at this
     have g:upd T d v e=T e:=by simp[upd,b]
     simp only[g,ZE o.op a.1]
theorem Qg {o z:Oper} {v:AV} (a:∀d,z.dst=some d->jH ops o d=false):vz P ops (zL T z.dst v) o=vz P ops T o:=by
 cases b:z.dst with
 | none=>rfl
 | some d=>exact xXa (a d b)
theorem jea {o:Oper} {ob:Ob} {mk:Nat->AV} (a:vz P ops T o=some (some (ob,mk))):ob.isRes=false:=by
 have key:(qg P T o.op).map some=some (some (ob,mk))->ob.isRes=false:=λh=>by
  cases b:qg P T o.op with
  | none=>rw[b] at h;cases h
  | some q=>rw[b] at h;injection h with h;injection h with h;subst h;exact Wo b
 unfold vz at a
 split at a
 ·exact key a
 ·split at a
  ·split at a
   ·split at a
    ·exact key a
    ·injection a with a;cases a
   ·injection a with a;cases a
   ·cases a
  ·cases a
theorem KP {o:Oper} (k:xS P T h o K):∃v h',K (zL T o.dst v) h'/\ResK h h':=by
 unfold xS at k
 split at k
 ·rename_i x h' a;exact ⟨x,h',k,(wc (φ:=λ_=> .res) (λ_ _=>rfl) _ a).2⟩
 ·split at k
  ·split at k
   ·obtain ⟨_,⟨r,h',k2,k3⟩,_⟩:=k;exact ⟨r,h',k2,k3⟩
   ·exact k.elim
  ·exact k.elim
theorem Xk {o:Oper} (k:jU P ops o K T h):∃v h',K (zL T o.dst v) h'/\ResK h h':=by
 unfold jU jt at k
 split at k
 ·exact KP k
 ·rename_i j a d
  split at k
  ·split at k
   ·rename_i b _
    by_cases c:b=a
    ·exact KP (k.1 c)
    ·exact ⟨_,h,k.2 c,.refl⟩
   ·exact ⟨_,h,k,.refl⟩
   ·exact k.elim
  ·exact k.elim
theorem xYa {o:Oper} {id:Nat} {ob:Ob} (k:xS P T h o K) (b:h[id]? =some .res) (f:ob.isRes=false) (c:∀v h',ResK h h'->K (zL T o.dst v) h'->K' (zL T o.dst v) (h'.set id ob)):xS P T (h.set id ob) o K':=
 y8 (vYa k b f) λj i ⟨h',e,a,⟨v,d⟩,g⟩=>by subst e d;exact c v h' g a
section
variable {kk:IntKind} {n n':Int} {v v':AV}
theorem vA (a:n≠n'):∀(es:List (AV × AV)),js n' (qA kk n v es)=js n' es
 | []=>by simp[qA,js,jB,a]
 | e::r=>by
   unfold qA
   split
   ·simp[js,jB,a]
   ·simp[js,vA a r]
theorem ko (a:n≠n'):∀(es:List (AV × AV)),js n' (qM kk n v es)=js n' es
 | []=>rfl
 | e::r=>by
   unfold qM
   split
   ·rename_i h
    have k1:jB (.v (.int kk n),v)=n:=rfl
    simp[js,k1,ko a r,h]
   ·simp[js,ko a r]
theorem qia (a:n≠n'):∀(es:List (AV × AV)),qM kk n v (qM kk n' v' es)=qM kk n' v' (qM kk n v es)
 | []=>rfl
 | e::r=>by
   have k1:jB (.v (.int kk n),v)=n:=rfl
   have k2:jB (.v (.int kk n'),v')=n':=rfl
   have b:=qia a r
   by_cases d:jB e=n
   ·simp[qM,d,a,k1,b]
   ·by_cases c:jB e=n'
    ·simp[qM,c,show n'≠n from λe=>a e.symm,k2,b]
    ·simp[qM,d,c,b]
theorem VF (a:n≠n'):∀(es:List (AV × AV)),qM kk n v (qA kk n' v' es)=qA kk n' v' (qM kk n v es)
 | []=>by
   have k2:jB (.v (.int kk n'),v')=n':=rfl
   simp[qM,qA,k2,show n'≠n from λe=>a e.symm]
 | e::r=>by
   have k1:jB (.v (.int kk n),v)=n:=rfl
   have k2:jB (.v (.int kk n'),v')=n':=rfl
   have d:=VF a r
   by_cases c:jB e=n
   ·by_cases b:n'<n
    ·simp[qM,qA,c,k1,k2,b,show n'≠n from λe=>a e.symm]
    ·simp[qM,qA,c,k1,b,d]
   ·by_cases b:n'<jB e
    ·simp[qM,qA,c,k2,b,show n'≠n from λe=>a e.symm]
    ·simp[qM,qA,c,b,d]
theorem Y5:∀ {es:List (AV × AV)},jP kk (qA kk n v es)=jP kk es:=by
 intro es
 rw[Bool.eq_iff_iff,qI,qI]
 constructor
 ·exact λh q a=>h q ((vZ es).mem_iff.2 (by simp[a]))
 ·intro h q a
  rcases List.mem_cons.1 ((vZ es).mem_iff.1 a) with rfl | a
  ·rfl
  ·exact h q a
theorem Y6 {es:List (AV × AV)} (h:jP kk es=true):jP kk (qM kk n v es)=true:=by
 rw[qI] at h⊢
 intro q b
 rw[ka,List.mem_map] at b
 obtain ⟨d,e,a⟩:=b
 by_cases c:jB d=n
 ·rw[if_pos c] at a;subst a;rfl
 ·rw[if_neg c] at a;subst a;exact h _ e
theorem jfa {es g j:List (AV × AV)} (f:n≠n') (i:yv kk n v es=some g) (h:yv kk n' v' g=some j):∃b,yv kk n' v' es=some b/\yv kk n v b=some j:=by
 unfold yv at i
 split at i
 case isFalse=>cases i
 rename_i k
 injection i with i
 have m:jP kk g=true:=by
  unfold yv at h
  split at h
  ·assumption
  ·cases h
 have d:n'≠n:=λe=>f e.symm
 refine ⟨_,by unfold yv;rw[if_pos k],?_⟩
 unfold yv at h⊢
 rw[if_pos m] at h
 have l:jP kk (if js n' es=true then qM kk n' v' es else qA kk n' v' es)=true:=by
  split
  ·exact Y6 k
  ·rw[Y5];exact k
 rw[if_pos l, <-h, <-i]
 congr 1
 by_cases a:js n es=true<;>by_cases c:js n' es=true
 ·simp only[a,c,if_true,ko f,ko d,qia f]
 ·simp only[a,c,if_true,if_false,Bool.false_eq_true,ko f,vA d,VF f]
 ·simp only[a,c,if_true,if_false,Bool.false_eq_true,vA f,ko d,VF d]
 ·simp only[a,c,if_false,Bool.false_eq_true,vA f,vA d,Je f]
end
theorem Xl {t:TypeId} {a:Tmp} {kk:IntKind} {n:Int} {v:Operand} {u:AV} {h':List Ob} (b:zn P T h (.insert t (.tmp a) (.const (.int kk n)) v)=some (u,h')):
  ∃ id es es',T a= .mp id/\h[id]? =some (.mapo es)/\yv kk n (ev T v) es=some es'/\u= .v undef/\h'=h.set id (.mapo es')/\
    ∀e f i k n2,e[id]? =some (.mapo f)->yv kk n2 (ev T k) f=some i->zn P T e (.insert t (.tmp a) (.const (.int kk n2)) k)=some (.v undef,e.set id (.mapo i)):=by
 simp only[zn,show ev T (.tmp a)=T a from rfl,show ev T (.const (.int kk n))= .v (.int kk n) from rfl] at b
 split at b
 ·rename_i s r id kk' n' o l c
  injection c with c
  injection c with hk1 hk2
  subst hk1 hk2
  split at b
  ·rename_i d es j q
   split at b
   ·rename_i heq
    subst heq
    cases g:yv d n (ev T v) es with
    | none=>rw[g] at b;cases b
    | some es'=>
      rw[g] at b
      injection b with b;injection b with hx1 hx2;subst hx1 hx2
      refine ⟨id,es,es',l,q,g,rfl,rfl,λe f i k n2 p m=>?_⟩
      simp only[zn,show ev T (.tmp a)=T a from rfl,show ev T (.const (.int d n2))= .v (.int d n2) from rfl,o,l,j,p,if_true,m]
      rfl
   ·cases b
  ·cases b
 ·cases b
theorem xZa (c:VE x y=true) (ha:Wr ops x y=true) (s:p.2.2=[]) (J:q.2.2=[]) (k:ju P ops b p x (ju P ops b q y K) T h):ju P ops b (q.1,q.2.1,[]) y (ju P ops b p x K) T h:=by
 obtain ⟨D,G⟩:=Xj ha
 obtain ⟨j,τ,xt,W,Z,N⟩:=x
 obtain ⟨i,S,yt,yp,ya,Q⟩:=y
 unfold VE at c
 simp only at c
 split at c
 case h_2=>cases c
 rename_i t m k1 n v t' m' k2 n' v'
 simp only[Bool.and_eq_true,beq_iff_eq,bne_iff_ne,ne_eq] at c
 obtain ⟨⟨⟨⟨⟨B,ht⟩,U⟩,hn⟩,C⟩,A⟩:=c
 subst ht U
 split at B
 case h_2=>cases B
 rename_i a a'
 have B:a=a':=by simpa using B
 subst B
 have C:N=none:=by cases N<;>simp_all
 have A:Q=none:=by cases Q<;>simp_all
 subst C A
 have Y:∀z w,cls (.insert t (.tmp a) z w)≠3:=λz w=>by simp[cls]
 have e:∀(q:Ent) (o:Oper) (K:Env->List Ob->Prop) (T:Env) (h:List Ob) (z w:Operand),q.2.2=[]->o.op= .insert t (.tmp a) z w->o.guard=none->(ju P ops b q o K T h↔∃u h',zn P T h o.op=some (u,h')/\K (zL T o.dst u) h'):=λq o K T h z w hq R hg=>by
  rw[xL (by rw[R];exact Y z w),hq]
  simp only[qj,true_and,jU,jt,hg,xTa,xS]
  cases he:zn P T h o.op with
  | none=>simp[R]
  | some r=>obtain ⟨u,h'⟩:=r;simp only[Option.some.injEq,Prod.mk.injEq];exact ⟨λk=>⟨u,h',⟨rfl,rfl⟩,k⟩,λ⟨_,_,⟨F,g⟩,k⟩=>by subst F g;exact k⟩
 rw[e p _ _ T h _ _ s rfl rfl] at k
 obtain ⟨u,h1,F,k⟩:=k
 rw[e q _ _ _ h1 _ _ J rfl rfl] at k
 obtain ⟨u',h2,g,k⟩:=k
 have hy:∀u h,zn P (zL T j u) h (.insert t (.tmp a) (.const (.int k1 n')) v')=zn P T h (.insert t (.tmp a) (.const (.int k1 n')) v'):=λu h=>by
  cases l:j with
  | none=>rfl
  | some d=>
    have:=(D d l).1
    unfold jH at this
    rw[Bool.or_eq_false_iff] at this
    exact km _ this.1
 have hx:∀u h,zn P (zL T i u) h (.insert t (.tmp a) (.const (.int k1 n)) v)=zn P T h (.insert t (.tmp a) (.const (.int k1 n)) v):=λu h=>by
  cases l:i with
  | none=>rfl
  | some d=>
    have:=(G d l).1
    unfold jH at this
    rw[Bool.or_eq_false_iff] at this
    exact km _ this.1
 simp only at F g
 rw[hy] at g
 obtain ⟨id,es,ω,m1,H,m3,m4,m5,M⟩:=Xl F
 obtain ⟨V,es',L,E,f,o3,o4,o5,o6⟩:=Xl g
 rw[m1] at E
 injection E with E
 subst E m4 o4 m5
 rw[List.getElem?_set_self (jY H)] at f
 injection f with f
 injection f with f
 subst f
 obtain ⟨O,X,i2⟩:=jfa hn m3 o3
 rw[e (q.1,q.2.1,[]) _ _ T h _ _ rfl rfl rfl]
 refine ⟨.v undef,_,M h es O v' n' H X,?_⟩
 rw[e p _ _ _ _ _ _ s rfl rfl]
 simp only
 rw[hx]
 refine ⟨.v undef,_,M _ O L v n (by rw[List.getElem?_set_self (jY H)]) i2,?_⟩
 rw[List.set_set]
 subst o5
 rw[List.set_set] at k
 have I:zL (zL T j (.v undef)) i (.v undef)=zL (zL T i (.v undef)) j (.v undef):=JP (x:=⟨j,.insert t (.tmp a) (.const (.int k1 n)) v,xt,W,Z,none⟩) (y:=⟨i,.insert t (.tmp a) (.const (.int k1 n')) v',yt,yp,ya,none⟩) λd l=>(D d l).2
 simp only at k
 rw[I] at k
 exact k
theorem VG {op:Op} {mk:Nat->AV} {ob:Ob} (a:qg P T op=some (ob,mk)) (b:Ws op=true):∀es,ob≠ .mapo es:=by
 intro es e
 subst e
 cases op<;>simp only[Ws] at b<;>first
  | cases b;done
  | skip
 all_goals
  simp only[qg] at a
  repeat' split at a
 all_goals first
  | cases a;done
  | (simp only[Option.map_eq_some_iff,Prod.mk.injEq] at a;obtain ⟨_,_,h,_⟩:=a;cases h;done)
theorem Y7 {o:Oper} {ob:Ob} {mk:Nat->AV} (a:vz P ops T o=some (some (ob,mk))) (c:Ws o.op=true):∀es,ob≠ .mapo es:=by
 have key:(qg P T o.op).map some=some (some (ob,mk))->∀es,ob≠ .mapo es:=λh=>by
  cases b:qg P T o.op with
  | none=>rw[b] at h;cases h
  | some q=>rw[b] at h;injection h with h;injection h with h;subst h;exact VG b c
 unfold vz at a
 split at a
 ·exact key a
 ·split at a
  ·split at a
   ·split at a
    ·exact key a
    ·injection a with a;cases a
   ·injection a with a;cases a
   ·cases a
  ·cases a
theorem jga {id:Nat} {ob:Ob} {t:TypeId} {m k v:Operand} {u:AV} {j:List Ob} (f:∀es,ob≠ .mapo es) (a:zn P T (h.set id ob) (.insert t m k v)=some (u,j)) (l:h[id]? =some .res):
  ∃h',zn P T h (.insert t m k v)=some (u,h')/\j=h'.set id ob/\h'[id]? =some .res:=by
 simp only[zn] at a⊢
 split at a
 ·rename_i s p i kk n q r o
  split at a
  ·rename_i kk' es g d
   have c:id≠i:=λe=>by
    subst e
    rw[List.getElem?_set_self (List.getElem?_eq_some_iff.1 l).1] at d
    injection d with d
    exact f es d
   rw[List.getElem?_set_ne c] at d
   split at a
   ·rename_i heq
    simp only[g,d,if_pos heq]
    cases b:yv kk' n (ev T v) es with
    | none=>subst heq;rw[b] at a;cases a
    | some es'=>
      subst heq
      rw[b] at a
      injection a with a;injection a with hx1 hx2;subst hx1 hx2
      refine ⟨_,by rw[b];rfl,by rw[List.set_comm _ _ c],by rw[List.getElem?_set_ne (λe=>c e.symm)];exact l⟩
   ·cases a
  ·cases a
 ·cases a
theorem Y8 (o:xWa x y=true) (Q:Wr ops x y=true) (O:p.2.2=[]) (l:q.2.2=[]) (k:ju P ops b p x (ju P ops b q y K) T h):ju P ops b (q.1,q.2.1,[]) y (ju P ops b p x K) T h:=by
 obtain ⟨s,C⟩:=Xj Q
 simp only[xWa,Bool.and_eq_true] at o
 obtain ⟨⟨A,H⟩,F⟩:=o
 have f:cls x.op=3:=by
  generalize x.op=op at A
  cases op<;>simp only[Ws] at A<;>first
   | rfl
   | cases A
 obtain ⟨e,B,D,G,E,J⟩:=y
 simp only at H F
 have F:J=none:=by cases J<;>simp_all
 subst F
 cases B<;>simp only[yka] at H<;>first
  | cases H;done
  | skip
 rename_i t m kk v
 have I:cls (.insert t m kk v)≠3:=by simp[cls]
 have a:∀(q:Ent) (K:Env->List Ob->Prop) (T:Env) (h:List Ob),q.2.2=[]->(ju P ops b q ⟨e,.insert t m kk v,D,G,E,none⟩ K T h↔∃u h',zn P T h (.insert t m kk v)=some (u,h')/\K (zL T e u) h'):=λq K T h U=>by
  rw[xL I,U]
  simp only[qj,true_and,jU,jt,xTa,xS]
  cases W:zn P T h (.insert t m kk v) with
  | none=>simp
  | some r=>obtain ⟨u,h'⟩:=r;simp only[Option.some.injEq,Prod.mk.injEq];exact ⟨λk=>⟨u,h',⟨rfl,rfl⟩,k⟩,λ⟨_,_,⟨g,M⟩,k⟩=>by subst g M;exact k⟩
 have c:∀w h,zn P (zL T x.dst w) h (.insert t m kk v)=zn P T h (.insert t m kk v):=λw h=>by
  cases i:x.dst with
  | none=>rfl
  | some d=>
    have:=(s d i).1
    unfold jH at this
    rw[Bool.or_eq_false_iff] at this
    exact km _ this.1
 have j:∀u w,zL (zL T x.dst u) e w=zL (zL T e w) x.dst u:=λu w=>JP (y:=⟨e,.insert t m kk v,D,G,E,none⟩) λd i=>(s d i).2
 have n:∀w,vz P ops (zL T e w) x=vz P ops T x:=λw=>Qg (z:=⟨e,.insert t m kk v,D,G,E,none⟩) λd i=>(C d i).1
 rw[xf f,jg] at k
 rw[a _ _ T h rfl]
 cases hex:vz P ops T x with
 | none=>rw[hex] at k;exact k.elim
 | some ex=>
   rw[hex] at k
   cases ex with
   | none=>
     simp only at k
     rw[a _ _ _ _ l] at k
     obtain ⟨u,h',g,k⟩:=k
     rw[c] at g
     refine ⟨u,h',g,?_⟩
     rw[xf f,jg,n,hex]
     simp only
     rw[<-j]
     exact k
   | some N=>
     obtain ⟨ob,mk⟩:=N
     simp only at k
     obtain ⟨k1,k2⟩:=k
     rw[a _ _ _ _ l] at k2
     obtain ⟨u,h',g,k2⟩:=k2
     rw[c] at g
     obtain ⟨L,V,S,R⟩:=jga (Y7 hex A) g k1
     refine ⟨u,L,V,?_⟩
     rw[xf f,jg,n,hex]
     simp only
     rw[<-j]
     subst S
     exact ⟨R,k2⟩
theorem Qia {l2:List Nat} (H:ops[p.1]? =some x) (hs:wO ops p q x y=true) (hp:cls x.op≠2->p.2.2=[]) (hq:cls y.op≠2->q.2.2=[]) (Z:ops[q.1]? =some y)
  (A:∀l∈l2,l∈q.2.2/\xc ops l p.1=true) (V:∀l∈p.2.2,xc ops l q.1=true) (ρ:∀l,l∈q.2.2->l∉l2->l=p.1)
  (hr:cls y.op=3->h[b+q.2.1]? =some .res) (ε:cls x.op=3->cls y.op=3->p.2.1≠q.2.1) (M:p.1∈q.2.2->∀d,x.dst=some d->jH ops x d=false)
  (k:ju P ops b p x (ju P ops b q y K) T h):ju P ops b (q.1,q.2.1,l2) y (ju P ops b p x K) T h:=by
 simp only[wO,Bool.and_eq_true,Bool.or_eq_true,beq_iff_eq,bne_iff_ne,ne_eq,decide_eq_true_eq] at hs
 obtain ⟨ha,hs⟩:=hs
 obtain ⟨z,B⟩:=Xj ha
 have Q:cls y.op=3->ju P ops b (q.1,q.2.1,l2) y (ju P ops b p x K) T h:=λhy=>by
  have R:=hr hy
  rw[xf hy,jg]
  have i:∀v h',ju P ops b q y K (zL T x.dst v) h'↔match vz P ops T y with
    | some (some (ob,mk))=>h'[b+q.2.1]? =some .res/\K (zL (zL T x.dst v) y.dst (mk (b+q.2.1))) (h'.set (b+q.2.1) ob)
    | some none=>K (zL (zL T x.dst v) y.dst (.v undef)) h'
    | none=>False:=λv h'=>by
   rw[xf hy,jg,Qg (λd c=>(z d c).1)]
  have G:∀u v,zL (zL T x.dst u) y.dst v=zL (zL T y.dst v) x.dst u:=λu v=>JP λd c=>(z d c).2
  have F:∀d,y.dst=some d->jH ops x d=false:=λd c=>(B d c).1
  by_cases J:cls x.op=3
  ·rw[xf J,jg] at k
   have I:vz P ops (zL T y.dst (.v undef)) x=vz P ops T x/\∀v,vz P ops (zL T y.dst v) x=vz P ops T x:=⟨Qg F,λv=>Qg F⟩
   cases hex:vz P ops T x with
   | none=>rw[hex] at k;exact k.elim
   | some ex=>
     rw[hex] at k
     have L:b+p.2.1≠b+q.2.1:=λe=>ε J hy (by omega)
     cases ex with
     | none=>
       simp only at k
       rw[i] at k
       cases g:vz P ops T y with
       | none=>rw[g] at k;exact k.elim
       | some W=>cases W with
         | none=>simp only[g] at k ⊢;rw[xf J,jg,I.2,hex];simp only;rw[<-G];exact k
         | some X=>obtain ⟨ob,mk⟩:=X;simp only[g] at k ⊢;refine ⟨R,?_⟩;rw[xf J,jg,I.2,hex];simp only;rw[<-G];exact k.2
     | some ox=>
       obtain ⟨ox,mx⟩:=ox
       simp only at k
       obtain ⟨k1,k2⟩:=k
       rw[i] at k2
       cases g:vz P ops T y with
       | none=>rw[g] at k2;exact k2.elim
       | some W=>cases W with
         | none=>simp only[g] at k2 ⊢;rw[xf J,jg,I.2,hex];simp only;rw[<-G];exact ⟨k1,k2⟩
         | some X=>
           obtain ⟨ob,mk⟩:=X
           simp only[g] at k2⊢
           refine ⟨R,?_⟩
           rw[xf J,jg,I.2,hex]
           simp only
           rw[<-G,List.getElem?_set_ne (λe=>L e.symm),List.set_comm _ _ (λe=>L e.symm)]
           exact ⟨k1,k2.2⟩
  ·rw[xL J] at k
   obtain ⟨v0,h0,k0,_⟩:=Xk k
   have k0:=(i v0 h0).1 k0.2
   cases g:vz P ops T y with
   | none=>rw[g] at k0;exact k0.elim
   | some W=>cases W with
     | none=>
       simp only
       rw[xL J]
       have:jU P ops x (λj a=>qj P ops j a p.2.2/\K (zL j y.dst (.v undef)) a) T h:=jf (wy k) λj a ⟨⟨f,m⟩,⟨v,e⟩,_⟩=>by
        subst e
        refine ⟨f,?_⟩
        have:=(i v a).1 m
        rw[g] at this
        exact this
       have μ:jU P ops x (λj a=>qj P ops j a p.2.2/\K j a) (zL T y.dst (.v undef)) h:=by
        cases c:y.dst with
        | none=>
          rw[c] at this
          exact this
        | some d=>
          rw[c] at this
          show jU P ops x _ (upd T d (.v undef)) h
          rw[y9 (B d c).1 (B d c).2]
          refine jf this λj a ⟨f,m⟩=>⟨?_,m⟩
          rw[qN] at f⊢
          intro l w
          have:=(Za (P:=P) (T:=j) (h:=a) (v:= .v undef) (p:=q) Z (V l w)).2 (f l w)
          rw[c] at this
          exact this
       exact μ
     | some X=>
       obtain ⟨ob,mk⟩:=X
       simp only
       refine ⟨R,?_⟩
       have O:=jea g
       rw[xL J]
       have key:jU P ops x (λj a=>qj P ops j a p.2.2/\K (zL j y.dst (mk (b+q.2.1))) a) T (h.set (b+q.2.1) ob):=by
        refine VD k (λk=>xYa k R O λv h' θ ⟨f,m⟩=>?_) λ⟨f,m⟩=>?_
        ·have m:=(i v h').1 m
         rw[g] at m
         refine ⟨?_,m.2⟩
         rw[qN] at f⊢
         exact λl w=>Ww (f l w) (θ _ R) O
        ·have m:=(i _ h).1 m
         rw[g] at m
         refine ⟨?_,m.2⟩
         rw[qN] at f⊢
         exact λl w=>Ww (f l w) R O
       cases c:y.dst with
       | none=>rw[c] at key;exact key
       | some d=>
         rw[c] at key
         show jU P ops x _ (upd T d (mk (b+q.2.1))) (h.set (b+q.2.1) ob)
         rw[y9 (B d c).1 (B d c).2]
         refine jf key λj a ⟨f,m⟩=>⟨?_,m⟩
         rw[qN] at f⊢
         intro l w
         have:=(Za (P:=P) (T:=j) (h:=a) (v:=mk (b+q.2.1)) (p:=q) Z (V l w)).2 (f l w)
         rw[c] at this
         exact this
 rcases hs with (((((⟨ι,N⟩ | ⟨ζ,U⟩) | N) | ⟨⟨ζ,ξ⟩,t⟩) | ⟨⟨E,C⟩,n⟩) | ⟨⟨E,C⟩,n⟩)
 ·
  have o:=hp (by omega)
  rw[jy (by omega) o] at k
  obtain ⟨D,h1,a⟩:=k
  rw[xL N] at a⊢
  have S:jU P ops y (λj a=>qj P ops j a l2/\K (zL j x.dst D) a) T h:=by
   cases c:x.dst with
   | none=>rw[c] at a;exact jf a λj a ⟨f,m⟩=>⟨by rw[qN] at f ⊢;exact λl w=>f l (A l w).1,m⟩
   | some d=>
     rw[c] at a
     have a:jU P ops y _ (upd T d D) h:=a
     rw[y9 (z d c).1 (z d c).2] at a
     refine jf a λj a ⟨f,m⟩=>⟨?_,m⟩
     rw[qN] at f⊢
     intro l w
     have:=f l (A l w).1
     refine (Za (P:=P) (T:=j) (h:=a) (v:=D) H (A l w).2).1 ?_
     rw[c];exact this
  refine jf (wy S) λj a ⟨⟨f,m⟩,⟨v,e⟩,_⟩=>⟨f,?_⟩
  subst e
  refine (jy (by omega) o).2 ⟨D,?_,m⟩
  rw[Qf λd c=>(B d c).1,jba ι a h]
  exact h1
 ·have o:=hp (by omega)
  have Y:=hq (by omega)
  have s:l2=[]:=by
   cases l2 with
   | nil=>rfl
   | cons l r=>have:=(A l (by simp)).1;rw[Y] at this;cases this
  subst s
  rw[jy (by omega) o] at k
  obtain ⟨D,h1,a⟩:=k
  rw[jy U Y] at a
  obtain ⟨vy,S,h4⟩:=a
  rw[Qf λd c=>(z d c).1] at S
  refine (jy (q:=(q.1,q.2.1,[])) U rfl).2 ⟨vy,S,(jy (by omega) o).2 ⟨D,?_,?_⟩⟩
  ·rw[Qf λd c=>(B d c).1];exact h1
  ·rw[<-JP λd c=>(z d c).2];exact h4
 ·exact Q N
 ·
  have o:=hp (by omega)
  rw[jy (by omega) o] at k
  obtain ⟨D,h1,a⟩:=k
  rw[xL (by omega)] at a⊢
  have t:p.1∈q.2.2:=by simpa using t
  have S:jU P ops y (λj a=>(qj P ops j a l2/\ww P ops j a x=some D)/\K (zL j x.dst D) a) T h:=by
   have δ:∃d,x.dst=some d:=by
    obtain ⟨v0,h0,⟨f,_⟩,_⟩:=Xk a
    rw[qN] at f
    have:=f p.1 t
    unfold kP at this
    rw[H] at this
    simp only at this
    cases c:x.dst with
    | none=>rw[c] at this;exact this.elim
    | some d=>exact ⟨d,rfl⟩
   obtain ⟨d,c⟩:=δ
   rw[c] at a⊢
   have a:jU P ops y _ (upd T d D) h:=a
   rw[y9 (z d c).1 (z d c).2] at a
   refine jf (wy a) λj a ⟨⟨f,m⟩,⟨v,e⟩,_⟩=>⟨⟨?_,?_⟩,m⟩
   ·rw[qN] at f⊢
    intro l w
    have:=f l (A l w).1
    refine (Za (P:=P) (T:=j) (h:=a) (v:=D) H (A l w).2).1 ?_
    rw[c];exact this
   ·rw[qN] at f
    have:=f p.1 t
    unfold kP at this
    rw[H] at this
    simp only[c] at this
    rw[Wt (M t d c)] at this
    rw[this];simp[upd]
  refine jf (wy S) λj a ⟨⟨⟨f,q0⟩,m⟩,⟨v,e⟩,_⟩=>⟨f,?_⟩
  exact (jy (by omega) o).2 ⟨D,q0,m⟩
 ·
  have C:p.2.2=[]:=by simpa using C
  have n:q.2.2=[]:=by simpa using n
  have s:l2=[]:=by
   cases l2 with
   | nil=>rfl
   | cons l r=>have:=(A l (by simp)).1;rw[n] at this;cases this
  subst s
  exact xZa E ha C n k
 ·have C:p.2.2=[]:=by simpa using C
  have n:q.2.2=[]:=by simpa using n
  have s:l2=[]:=by
   cases l2 with
   | nil=>rfl
   | cons l r=>have:=(A l (by simp)).1;rw[n] at this;cases this
  subst s
  exact Y8 E ha C n k
end
end Go.Proofs.YtfmldcilgbbimaaGreat.Ax
