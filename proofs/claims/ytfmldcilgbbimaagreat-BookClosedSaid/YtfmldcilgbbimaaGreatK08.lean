/-
  Joined.
-/
import Derived.Test.YtfmldcilgbbimaaGreatK07
set_option linter.unusedSimpArgs false
set_option linter.unusedVariables false
namespace Go.Proofs.YtfmldcilgbbimaaGreat.Ax
open Go Go.RowKit
abbrev Ent:=Nat × Nat × List Nat
def wc (P:Program) (ops:Array Oper) (T:Env) (h:List Ob) (l:Nat):Prop:=match ops[l]? with
 | some o=>match o.dst with
   | some d=>yG P ops T h o=some (T d)
   | none=>False
 | none=>False
def qA (P:Program) (ops:Array Oper) (T:Env) (h:List Ob):List Nat->Prop
 | []=>True
 | l::r=>wc P ops T h l/\qA P ops T h r
def jU (P:Program) (ops:Array Oper) (b:Nat) (q:Ent) (o:Oper) (K:Env->List Ob->Prop) (T:Env) (h:List Ob):Prop:=
 if cls o.op=3 then Vx P ops (b+q.2.1) o K T h else xK P ops o (λT h=>qA P ops T h q.2.2/\K T h) T h
def wpE (P:Program) (ops:Array Oper) (b:Nat) (K:Env->List Ob->Prop):List Ent->Env->List Ob->Prop
 | [],T,h=>K T h
 | q::r,T,h=>match ops[q.1]? with
   | some o=>jU P ops b q o (wpE P ops b K r) T h
   | none=>False
def xR (o:Oper):List Nat:=(o.after.toList.filter (Region.binds .any)).map (·.on)
def yH (ops:Array Oper):Nat->Nat->Nat->Bool
 | 0,j,i=>match ops[i]? with
   | some o=>(xR o).contains j
   | none=>false
 | f+1,j,i=>match ops[i]? with
   | some o=>(xR o).contains j || (xR o).any λk=>decide (j<k) && yH ops f j k
   | none=>false
def zpa (x y:Oper):Bool:=match x.op,y.op with
 | .insert t m (.const (.int k n)) _,.insert d c (.const (.int k' n')) _=>(match m,c with
   | .tmp a,.tmp b=>a==b
   | _,_=>false) && t==d && k==k' && n != n' && x.guard.isNone && y.guard.isNone
 | _,_=>false
def qta:Op->Bool
 | .alloc .. | .box .. | .buildSlice .. | .makeSlice .. =>true
 | _=>false
def XPa:Op->Bool
 | .insert .. =>true
 | _=>false
def yNa (x y:Oper):Bool:=qta x.op && XPa y.op && y.guard.isNone
def xZ (ops:Array Oper) (l p:Nat):Bool:=match ops[l]?,ops[p]? with
 | some a,some b=>match b.dst with
   | some d=> !xr ops a d && a.dst != some d
   | none=>true
 | _,_=>false
def Zc (ops:Array Oper) (p q:Ent) (x y:Oper):Bool:=qsa ops x y &&
 ((cls x.op==0 && cls y.op != 3) || (cls x.op==1 && decide (cls y.op<=1)) || cls y.op==3 || (cls x.op==1 && cls y.op==2 && q.2.2.contains p.1) || (zpa x y && p.2.2.isEmpty && q.2.2.isEmpty) || (yNa x y && p.2.2.isEmpty && q.2.2.isEmpty))
def vJ (ops:Array Oper) (p q:Ent):Bool:=match ops[p.1]?,ops[q.1]? with
 | some x,some y=>(yH ops 8 p.1 q.1 || Zc ops p q x y) && !yH ops 8 q.1 p.1 && !p.2.2.contains q.1 && (cls x.op != 3 || cls y.op != 3 || p.2.1 != q.2.1)
 | _,_=>false
def J1 (ops:Array Oper):List Ent->Bool
 | []=>true
 | x::r=>r.all (vJ ops x) && J1 ops r
def yw (ops:Array Oper):Nat->List Oper->Bool
 | _,[]=>true
 | i,o::r=>(xR o).all (λj=>decide (j<i)) && yw ops (i+1) r
def yl (ops:Array Oper) (l:Nat):Bool:=(match ops[l]? with
 | some o=>decide (cls o.op<=1) && (match o.dst with
   | some d=> !xr ops o d
   | none=>false)
 | none=>false) && (List.range ops.size).all λp=>p==l || yH ops 8 p l || xZ ops l p
def kNa (ops:Array Oper) (k:Nat) (q:Ent):Bool:=match ops[q.1]? with
 | some o=>(cls o.op==2 || q.2.2.isEmpty) && (cls o.op != 3 || decide (q.2.1<k)) && !q.2.2.contains q.1 && q.2.2.all (yl ops)
 | none=>false
def Vy (ops:Array Oper) (k:Nat) (a:List Ent):Bool:=
 J1 ops a && yw ops 0 ops.toList && a.all (kNa ops k) && (List.range ops.size).all (λi=>(a.map (·.1)).contains i) && decide (a.map (·.1)).Nodup && decide (a.length<=ops.size)
section
variable {P:Program} {N:Nat} {B:Bs} {ops:Array Oper} {T:Env} {h:List Ob} {K K':Env->List Ob->Prop} {b:Nat} {p q:Ent} {x y:Oper}
theorem jj {l:List Nat}:qA P ops T h l↔∀i∈l,wc P ops T h i:=by
 induction l with
 | nil=>simp[qA]
 | cons i l a=>simp[qA,a]
theorem Ym {o:Oper} (a:cls o.op<=1):vg P T h o K↔∃x,(zt P T h o.op).map (·.1)=some x/\K (zZ T o.dst x) h:=by
 unfold vg
 cases d:zt P T h o.op with
 | some q=>
   obtain ⟨x,h'⟩:=q
   have:=xia a d
   subst this
   simp
 | none=>
   simp only[Option.map_none]
   constructor
   ·intro k
    generalize o.op=op at k a d
    cases op<;>first
     | exact k.elim
     | skip
    rename_i c
    obtain ⟨callee,args,f⟩:=c
    cases callee with
    | builtin b=>exact k.elim
    | value x=>simp[cls] at a
    | invoke r m=>exact k.elim
   ·rintro ⟨x,e,_⟩;cases e
theorem xja {o:Oper} (c:cls o.op<=1):xK P ops o K T h↔∃x,yG P ops T h o=some x/\K (zZ T o.dst x) h:=by
 unfold xK jT yG yKa
 cases o.guard with
 | none=>exact Ym c
 | some q=>
   obtain ⟨j,a⟩:=q
   simp only[]
   cases (ops[j]?).bind (·.dst) with
   | none=>simp
   | some d=>
     simp only[]
     split
     ·rename_i b _
      by_cases e:b=a
      ·subst e
       simp only[true_implies,ne_eq,not_true_eq_false,false_implies,and_true,if_true]
       exact Ym c
      ·simp[e]
     ·simp
     ·simp
theorem vMa {op:Op} (a:cls op=0) (h h':List Ob):(zt P T h op).map (·.1)=(zt P T h' op).map (·.1):=by
 cases op<;>simp only[cls] at a<;>try (omega;done)
 case binOp op t y z u=>
  have e:¬ QG z=true:=λh=>by rw[if_pos h] at a;omega
  simp only[zt,if_neg e]
  simp[Option.map_map,Function.comp_def]
 case build t ps=>
  simp only[zt]
  repeat' split
  all_goals first | rfl | skip
  all_goals
   cases (zl P t).zero with
   | none=>rfl
   | some z=>simp only[Option.bind_some];simp[Option.map_map,Function.comp_def]
 case fieldAddr t y i=>
  simp only[zt]
  split
  ·rename_i d _
   cases d[i]? with
   | none=>rfl
   | some f=>
     simp only[Option.bind_some]
     split
     ·split<;>rfl
     ·rfl
  ·rfl
 case field t y i=>
  simp only[zt]
  split
  ·rename_i d _ _ _
   cases d[i]? with
   | none=>rfl
   | some f=>
     simp only[Option.bind_some]
     split
     ·simp[Option.map_map,Function.comp_def]
     ·rfl
  ·rfl
 case call c=>
  obtain ⟨callee,args,g⟩:=c
  cases callee with
  | builtin b=>
    cases b<;>simp at a
    ·simp only[zt,yE]
     split<;>simp_all [Function.comp_def]
    ·simp only[zt,yE]
     split<;>simp_all [Function.comp_def]
  | value x=>simp at a
  | invoke r m=>simp at a
 all_goals
  simp only[zt]
  repeat' split
 all_goals first | rfl | simp[Option.map_map,Function.comp_def]
theorem vNa {o:Oper} (a:cls o.op=0) (h h':List Ob):yG P ops T h o=yG P ops T h' o:=by
 unfold yG
 rw[vMa a h h']
theorem qua {o:Oper} {d:Nat} {x:AV} (a:xr ops o d=false):yG P ops (upd T d x) h o=yG P ops T h o:=by
 unfold xr at a
 rw[Bool.or_eq_false_iff] at a
 unfold yG
 cases g:o.guard with
 | none=>simp only[vn o.op a.1]
 | some q=>
   obtain ⟨j,c⟩:=q
   rw[g] at a
   simp only[]
   cases f:(ops[j]?).bind (·.dst) with
   | none=>rfl
   | some e=>
     have b:e≠d:=λh=>by
      have:=a.2
      simp[f,h] at this
     have i:upd T d x e=T e:=by simp[upd,b]
     simp only[i,vn o.op a.1]
theorem J2 {o y:Oper} {v:AV} (b:∀d,y.dst=some d->xr ops o d=false):yG P ops (zZ T y.dst v) h o=yG P ops T h o:=by
 cases a:y.dst with
 | none=>rfl
 | some d=>exact qua (b d a)
theorem K1 {x y:Oper} {u v:AV} (a:∀d,x.dst=some d->y.dst≠some d):zZ (zZ T x.dst u) y.dst v=zZ (zZ T y.dst v) x.dst u:=by
 cases b:x.dst with
 | none=>rfl
 | some d=>
   have:=a d b
   exact J0 (T:=T) (x:=u) (y:=v) this
theorem qva {o:Oper} (k:vg P T h o K):vg P T h o λd b=>K d b/\(∃v,d=zZ T o.dst v)/\ResK h b:=by
 unfold vg at*
 split
 ·rename_i x h' a
  rw[a] at k
  exact ⟨k,⟨x,rfl⟩,(yi (φ:=λ_=> .res) (λ_ _=>rfl) _ a).2⟩
 ·rename_i a
  rw[a] at k
  clear a
  generalize o.op=op at k⊢
  cases op<;>first
   | exact k.elim
   | skip
  rename_i c
  simp only at k⊢
  cases f:wu T c with
  | none=>rw[f] at k;exact k.elim
  | some q=>
    rw[f] at k
    obtain ⟨k1,⟨r,h',k2,k3⟩,k4⟩:=k
    refine ⟨k1,⟨r,h',⟨k2,⟨r,rfl⟩,k3⟩,k3⟩,λφ t B w g vs l m p=>(k4 φ t B w g vs l m p).mono λe w' ⟨v,r,h',g',n,s,i,j⟩=>⟨v,r,h',g',n,⟨s,⟨r,rfl⟩,i⟩,i,j⟩⟩
theorem yI {o:Oper} (k:xK P ops o K T h):xK P ops o (λb a=>K b a/\(∃v,b=zZ T o.dst v)/\ResK h a) T h:=
 Z0 k qva λk=>⟨k,⟨_,rfl⟩,.refl⟩
theorem qwa {id:Nat} {ob:Ob} (b:h[id]? =some .res):Upto (λi=>if i=id then ob else .res) h.length:=λi a=>by
 have:=(List.getElem?_eq_some_iff.1 b).1
 exact if_neg (by omega)
theorem Z1 {φ:Nat->Ob} {id:Nat} {ob:Ob} (b:h[id]? =some .res) (c:ob.isRes=false):fill (λi=>if i=id then ob else φ i) h=fill φ (h.set id ob):=by
 apply List.ext_getElem?
 intro j
 rw[kT,kT]
 by_cases a:id=j
 ·subst a
  rw[b,List.getElem?_set_self (List.getElem?_eq_some_iff.1 b).1]
  simp only[Option.map_some,JR]
  rw[if_pos (show (Ob.res).isRes=true from rfl),if_pos trivial,if_neg (by rw[c];simp)]
 ·rw[List.getElem?_set_ne a]
  cases h[j]? with
  | none=>rfl
  | some o=>simp[JR,show j≠id from λe=>a e.symm]
theorem Ku {id:Nat} {ob:Ob} (b:h[id]? =some .res) (a:ob.isRes=false):fill (λi=>if i=id then ob else .res) h=h.set id ob:=by
 rw[Z1 (φ:=λ_=> .res) b a,Yc]
theorem Yn {id:Nat} {ob:Ob} {op:Op} {x:AV} {h':List Ob} (e:zt P T h op=some (x,h')) (a:h[id]? =some .res) (c:ob.isRes=false):zt P T (h.set id ob) op=some (x,h'.set id ob)/\ResK h h':=by
 obtain ⟨b,d⟩:=yi (qwa (ob:=ob) a) op e
 rw[Ku a c,Ku (d id a) c] at b
 exact ⟨b,d⟩
theorem Q1a {o:Oper} {id:Nat} {ob:Ob} {v:AV} (a:yG P ops T h o=some v) (l:h[id]? =some .res) (k:ob.isRes=false):yG P ops T (h.set id ob) o=some v:=by
 have key:∀v,(zt P T h o.op).map (·.1)=some v->(zt P T (h.set id ob) o.op).map (·.1)=some v:=λv b=>by
  cases c:zt P T h o.op with
  | none=>rw[c] at b;cases b
  | some q=>
    obtain ⟨y,h'⟩:=q
    rw[c] at b
    rw[(Yn c l k).1]
    exact b
 unfold yG at*
 cases g:o.guard with
 | none=>simp only[g] at a ⊢;exact key v a
 | some q=>
   obtain ⟨j,i⟩:=q
   simp only[g] at a⊢
   cases f:(ops[j]?).bind (·.dst) with
   | none=>simp only[f] at a;cases a
   | some d=>
     simp only[f] at a⊢
     split at a
     ·split at a
      ·rename_i e;rw[if_pos e];exact key v a
      ·rename_i e;rw[if_neg e];exact a
     ·exact a
     ·cases a
theorem Q2a {id:Nat} {ob:Ob} {h':List Ob} (k:ResK h h'):ResK (h.set id ob) (h'.set id ob)∨(h.set id ob)[id]? =some .res:=by
 by_cases b:(h.set id ob)[id]? =some .res
 ·exact .inr b
 ·refine .inl λj a=>?_
  by_cases e:id=j
  ·subst e;exact absurd a b
  ·rw[List.getElem?_set_ne e] at a ⊢;exact k j a
theorem vOa {f:FuncId} {aZ:List AV} {R:AV->List Ob->Prop} {id:Nat} {ob:Ob} (c:ACalls P f aZ h R) (d:h[id]? =some .res) (a:ob.isRes=false):ACalls P f aZ (h.set id ob) λr h''=>∃h',h''=h'.set id ob/\R r h'/\ResK h h':=by
 have l:=(List.getElem?_eq_some_iff.1 d).1
 have o:(h.set id ob)[id]? ≠some .res:=λe=>by
  rw[List.getElem?_set_self l] at e;injection e with e;subst e;cases a
 have b:∀h',ResK h h'->ResK (h.set id ob) (h'.set id ob):=λh' k=>by
  rcases Q2a (id:=id) (ob:=ob) k with k | k
  ·exact k
  ·exact absurd k o
 obtain ⟨E,⟨r,h',D,u⟩,x⟩:=c
 refine ⟨E,⟨r,h'.set id ob,⟨h',rfl,D,u⟩,b h' u⟩,λφ y B w g vs p z q=>?_⟩
 have m:Upto (λi=>if i=id then ob else φ i) h.length:=λi n=>by
  have:i≠id:=by omega
  simp only[if_neg this]
  exact y i (by simpa using n)
 rw[<-Z1 d a] at p q
 refine (x _ m B w g vs p z q).mono λe w' ⟨v,r,h',g',A,C,j,t,s⟩=>?_
 rw[Z1 d a,Z1 (j id d) a] at t
 rw[Z1 (j id d) a] at s
 exact ⟨v,r,h'.set id ob,g',A,⟨h',rfl,C,j⟩,b h' j,t,s⟩
theorem Q3a {o:Oper} {id:Nat} {ob:Ob} (k:vg P T h o K) (i:h[id]? =some .res) (e:ob.isRes=false):vg P T (h.set id ob) o λg m=>∃h',m=h'.set id ob/\K g h'/\(∃v,g=zZ T o.dst v)/\ResK h h':=by
 have k:=qva k
 unfold vg at k⊢
 split at k
 ·rename_i x h' b
  rw[(Yn b i e).1]
  exact ⟨h',rfl,k⟩
 ·rename_i b
  split at k
  ·rename_i c p
   have d:zt P T (h.set id ob) o.op=none:=by
    rw[p] at b⊢
    split at k
    ·rename_i f aZ a
     obtain ⟨callee,args,s⟩:=c
     unfold wu at a
     split at a
     ·rename_i X j;simp only at j;subst j;rfl
     ·cases a
    ·exact k.elim
   rw[d]
   simp only
   split at k
   ·rename_i f aZ a
    exact (vOa k i e).mono λr h'' ⟨h',q,⟨t,n,l⟩,_⟩=>⟨h',q,t,n,l⟩
   ·exact k.elim
  ·exact k.elim
theorem Vz (b:qsa ops x y=true):(∀d,x.dst=some d->xr ops y d=false/\y.dst≠some d)/\(∀d,y.dst=some d->xr ops x d=false/\x.dst≠some d):=by
 simp only[qsa,Bool.and_eq_true] at b
 have c:∀d,x.dst=some d->xr ops y d=false/\y.dst≠some d:=λd a=>by
  have:=b.1
  rw[a] at this
  simpa using this
 refine ⟨c,λd a=>⟨?_,λe=>(c d e).2 a⟩⟩
 have:=b.2
 rw[a] at this
 simpa using this
theorem WW {l:Nat} {a:Oper} (f:ops[l]? =some a) (e:ops[p.1]? =some x) (b:xZ ops l p.1=true):(∀d,x.dst=some d->xr ops a d=false)/\(∀d,x.dst=some d->a.dst≠some d):=by
 unfold xZ at b
 rw[f,e] at b
 simp only at b
 refine ⟨λd c=>?_,λd c=>?_⟩<;>(rw[c] at b;simp at b)
 ·exact b.1
 ·exact b.2
theorem xka {d:Nat} {v:AV} (a:x.dst≠some d):zZ T x.dst v d=T d:=by
 cases b:x.dst with
 | none=>rfl
 | some e=>simp only[zZ,upd];rw[if_neg];intro h;exact a (by rw[b,h])
theorem QL {l:Nat} {v:AV} (i:ops[p.1]? =some x) (j:xZ ops l p.1=true):wc P ops (zZ T x.dst v) h l↔wc P ops T h l:=by
 unfold wc
 cases f:ops[l]? with
 | none=>simp
 | some a=>
   simp only
   obtain ⟨b,g⟩:=WW f i j
   cases c:a.dst with
   | none=>simp
   | some d=>
     simp only
     rw[J2 b,xka λe=>g d e c]
theorem qxa {l id:Nat} {ob:Ob} (k:wc P ops T h l) (f:h[id]? =some .res) (e:ob.isRes=false):wc P ops T (h.set id ob) l:=by
 unfold wc at*
 cases c:ops[l]? with
 | none=>rw[c] at k;exact k
 | some a=>
   rw[c] at k
   simp only at k⊢
   cases b:a.dst with
   | none=>rw[b] at k;exact k
   | some d=>rw[b] at k;exact Q1a k f e
theorem kX {o:Oper} (a:cls o.op≠3):jU P ops b q o K T h=xK P ops o (λT h=>qA P ops T h q.2.2/\K T h) T h:=if_neg a
theorem ka {o:Oper} (a:cls o.op=3):jU P ops b q o K T h=Vx P ops (b+q.2.1) o K T h:=if_pos a
theorem j7 {o:Oper} (c:cls o.op<=1) (a:q.2.2=[]):jU P ops b q o K T h↔∃x,yG P ops T h o=some x/\K (zZ T o.dst x) h:=by
 rw[kX (by omega),a]
 simp only[qA,true_and]
 exact xja c
theorem vPa {id:Nat} {o:Oper} (k:ZZ P id o K T h):ZZ P id o (λc b=>K c b/\(∃v,c=zZ T o.dst v)/\∀j,j≠id->h[j]? =some .res->b[j]? =some .res) T h:=by
 unfold ZZ at*
 split
 ·rename_i ob mk a
  rw[a] at k
  exact ⟨k.1,k.2,⟨_,rfl⟩,λj f d=>by rw[List.getElem?_set_ne (λe=>f e.symm)];exact d⟩
 ·rename_i a;rw[a] at k;exact k
theorem xla {o:Oper} (k:jU P ops b q o K T h) (c:∀e h',(∀j,(cls o.op=3->j≠b+q.2.1)->h[j]? =some .res->h'[j]? =some .res)->K e h'->K' e h'):jU P ops b q o K' T h:=by
 by_cases d:cls o.op=3
 ·rw[ka d] at k⊢
  refine Z0 k (λk=>xga (vPa k) λg f ⟨k,_,a⟩=>c _ _ (λj i=>a j (i d)) k) (c _ _ λj _ a=>a)
 ·rw[kX d] at k⊢
  exact jF (yI k) λg f ⟨⟨k1,k2⟩,_,a⟩=>⟨k1,c _ _ (λj _=>a j) k2⟩
def wF (P:Program) (ops:Array Oper) (T:Env) (o:Oper):Option (Option (Ob × (Nat->AV))):=match o.guard with
 | none=>(qy P T o.op).map some
 | some (j,a)=>match (ops[j]?).bind (·.dst) with
   | some d=>match T d with
     | .v (.bool b)=>if b=a then (qy P T o.op).map some else some none
     | .v (.tuple _)=>some none
     | _=>none
   | none=>none
theorem jG {id:Nat} {o:Oper}:Vx P ops id o K T h↔match wF P ops T o with
  | some (some (ob,mk))=>h[id]? =some .res/\K (zZ T o.dst (mk id)) (h.set id ob)
  | some none=>K (zZ T o.dst (.v undef)) h
  | none=>False:=by
 unfold Vx jT wF ZZ
 cases o.guard with
 | none=>cases qy P T o.op<;>simp
 | some q=>
   obtain ⟨j,a⟩:=q
   simp only[]
   cases (ops[j]?).bind (·.dst) with
   | none=>simp
   | some d=>
     simp only[]
     generalize T d=td
     split
     ·rename_i b
      by_cases c:b=a
      ·subst c
       cases qy P T o.op<;>simp
      ·simp[c]
     ·simp
     ·rename_i n1 n2
      split
      ·rename_i heq
       split at heq
       ·exact absurd rfl (n1 _)
       ·cases heq
       ·cases heq
      ·rename_i heq
       split at heq
       ·exact absurd rfl (n1 _)
       ·exact absurd rfl (n2 _)
       ·cases heq
      ·rfl
theorem yOa {o:Oper} {d:Nat} {v:AV} (a:xr ops o d=false):wF P ops (upd T d v) o=wF P ops T o:=by
 unfold xr at a
 rw[Bool.or_eq_false_iff] at a
 unfold wF
 cases g:o.guard with
 | none=>simp only[Jp o.op a.1]
 | some q=>
   obtain ⟨j,c⟩:=q
   rw[g] at a
   simp only[]
   cases f:(ops[j]?).bind (·.dst) with
   | none=>rfl
   | some e=>
     have b:e≠d:=λh=>by
      have:=a.2
      simp[f,h] at this
     have i:upd T d v e=T e:=by simp[upd,b]
     simp only[i,Jp o.op a.1]
theorem J3 {o z:Oper} {v:AV} (b:∀d,z.dst=some d->xr ops o d=false):wF P ops (zZ T z.dst v) o=wF P ops T o:=by
 cases a:z.dst with
 | none=>rfl
 | some d=>exact yOa (b d a)
theorem vQa {o:Oper} {ob:Ob} {mk:Nat->AV} (a:wF P ops T o=some (some (ob,mk))):ob.isRes=false:=by
 have key:(qy P T o.op).map some=some (some (ob,mk))->ob.isRes=false:=λh=>by
  cases b:qy P T o.op with
  | none=>rw[b] at h;cases h
  | some q=>rw[b] at h;injection h with h;injection h with h;subst h;exact qna b
 unfold wF at a
 split at a
 ·exact key a
 ·split at a
  ·split at a
   ·split at a
    ·exact key a
    ·injection a with a;cases a
   ·injection a with a;cases a
   ·cases a
  ·cases a
theorem Yo {o:Oper} (k:vg P T h o K):∃v h',K (zZ T o.dst v) h'/\ResK h h':=by
 unfold vg at k
 split at k
 ·rename_i x h' a;exact ⟨x,h',k,(yi (φ:=λ_=> .res) (λ_ _=>rfl) _ a).2⟩
 ·split at k
  ·split at k
   ·obtain ⟨_,⟨r,h',k2,k3⟩,_⟩:=k;exact ⟨r,h',k2,k3⟩
   ·exact k.elim
  ·exact k.elim
theorem VA {o:Oper} (k:xK P ops o K T h):∃v h',K (zZ T o.dst v) h'/\ResK h h':=by
 unfold xK jT at k
 split at k
 ·exact Yo k
 ·rename_i j a d
  split at k
  ·split at k
   ·rename_i b _
    by_cases c:b=a
    ·exact Yo (k.1 c)
    ·exact ⟨_,h,k.2 c,.refl⟩
   ·exact ⟨_,h,k,.refl⟩
   ·exact k.elim
  ·exact k.elim
theorem yPa {o:Oper} {id:Nat} {ob:Ob} (k:vg P T h o K) (c:h[id]? =some .res) (b:ob.isRes=false) (e:∀v h',ResK h h'->K (zZ T o.dst v) h'->K' (zZ T o.dst v) (h'.set id ob)):vg P T (h.set id ob) o K':=
 QJ (Q3a k c b) λj i ⟨h',f,g,⟨v,d⟩,a⟩=>by subst f d;exact e v h' a g
section
variable {kk:IntKind} {n n':Int} {v v':AV}
theorem wG (a:n≠n'):∀(es:List (AV × AV)),jS n' (qS kk n v es)=jS n' es
 | []=>by simp[qS,jS,xh,a]
 | e::r=>by
   unfold qS
   split
   ·simp[jS,xh,a]
   ·simp[jS,wG a r]
theorem vo (a:n≠n'):∀(es:List (AV × AV)),jS n' (jh kk n v es)=jS n' es
 | []=>rfl
 | e::r=>by
   unfold jh
   split
   ·rename_i h
    have k1:xh (.v (.int kk n),v)=n:=rfl
    simp[jS,k1,vo a r,h]
   ·simp[jS,vo a r]
theorem kOa (a:n≠n'):∀(es:List (AV × AV)),jh kk n v (jh kk n' v' es)=jh kk n' v' (jh kk n v es)
 | []=>rfl
 | e::r=>by
   have k1:xh (.v (.int kk n),v)=n:=rfl
   have k2:xh (.v (.int kk n'),v')=n':=rfl
   have b:=kOa a r
   by_cases c:xh e=n
   ·simp[jh,c,a,k1,b]
   ·by_cases d:xh e=n'
    ·simp[jh,d,show n'≠n from λe=>a e.symm,k2,b]
    ·simp[jh,c,d,b]
theorem zqa (a:n≠n'):∀(es:List (AV × AV)),jh kk n v (qS kk n' v' es)=qS kk n' v' (jh kk n v es)
 | []=>by
   have k2:xh (.v (.int kk n'),v')=n':=rfl
   simp[jh,qS,k2,show n'≠n from λe=>a e.symm]
 | e::r=>by
   have k1:xh (.v (.int kk n),v)=n:=rfl
   have k2:xh (.v (.int kk n'),v')=n':=rfl
   have d:=zqa a r
   by_cases c:xh e=n
   ·by_cases b:n'<n
    ·simp[jh,qS,c,k1,k2,b,show n'≠n from λe=>a e.symm]
    ·simp[jh,qS,c,k1,b,d]
   ·by_cases b:n'<xh e
    ·simp[jh,qS,c,k2,b,show n'≠n from λe=>a e.symm]
    ·simp[jh,qS,c,b,d]
theorem xma:∀ {es:List (AV × AV)},xB kk (qS kk n v es)=xB kk es:=by
 intro es
 rw[Bool.eq_iff_iff,jc,jc]
 constructor
 ·exact λh q a=>h q ((yh es).mem_iff.2 (by simp[a]))
 ·intro h q a
  rcases List.mem_cons.1 ((yh es).mem_iff.1 a) with rfl | a
  ·rfl
  ·exact h q a
theorem xna {es:List (AV × AV)} (h:xB kk es=true):xB kk (jh kk n v es)=true:=by
 rw[jc] at h⊢
 intro q c
 rw[vm,List.mem_map] at c
 obtain ⟨e,d,a⟩:=c
 by_cases b:xh e=n
 ·rw[if_pos b] at a;subst a;rfl
 ·rw[if_neg b] at a;subst a;exact h _ d
theorem vRa {es g j:List (AV × AV)} (d:n≠n') (i:ZL kk n v es=some g) (h:ZL kk n' v' g=some j):∃b,ZL kk n' v' es=some b/\ZL kk n v b=some j:=by
 unfold ZL at i
 split at i
 case isFalse=>cases i
 rename_i m
 injection i with i
 have l:xB kk g=true:=by
  unfold ZL at h
  split at h
  ·assumption
  ·cases h
 have f:n'≠n:=λe=>d e.symm
 refine ⟨_,by unfold ZL;rw[if_pos m],?_⟩
 unfold ZL at h⊢
 rw[if_pos l] at h
 have k:xB kk (if jS n' es=true then jh kk n' v' es else qS kk n' v' es)=true:=by
  split
  ·exact xna m
  ·rw[xma];exact m
 rw[if_pos k, <-h, <-i]
 congr 1
 by_cases a:jS n es=true<;>by_cases c:jS n' es=true
 ·simp only[a,c,if_true,vo d,vo f,kOa d]
 ·simp only[a,c,if_true,if_false,Bool.false_eq_true,vo d,wG f,zqa d]
 ·simp only[a,c,if_true,if_false,Bool.false_eq_true,wG d,vo f,zqa f]
 ·simp only[a,c,if_false,Bool.false_eq_true,wG d,wG f,Kr d]
end
theorem VB {t:TypeId} {a:Tmp} {kk:IntKind} {n:Int} {v:Operand} {u:AV} {h':List Ob} (b:zt P T h (.insert t (.tmp a) (.const (.int kk n)) v)=some (u,h')):
  ∃ id es es',T a= .mp id/\h[id]? =some (.mapo es)/\ZL kk n (ev T v) es=some es'/\u= .v undef/\h'=h.set id (.mapo es')/\
    ∀e k i j n2,e[id]? =some (.mapo k)->ZL kk n2 (ev T j) k=some i->zt P T e (.insert t (.tmp a) (.const (.int kk n2)) j)=some (.v undef,e.set id (.mapo i)):=by
 simp only[zt,show ev T (.tmp a)=T a from rfl,show ev T (.const (.int kk n))= .v (.int kk n) from rfl] at b
 split at b
 ·rename_i s r id kk' n' q l c
  injection c with c
  injection c with hk1 hk2
  subst hk1 hk2
  split at b
  ·rename_i d es f o
   split at b
   ·rename_i heq
    subst heq
    cases g:ZL d n (ev T v) es with
    | none=>rw[g] at b;cases b
    | some es'=>
      rw[g] at b
      injection b with b;injection b with hx1 hx2;subst hx1 hx2
      refine ⟨id,es,es',l,o,g,rfl,rfl,λe k i j n2 m p=>?_⟩
      simp only[zt,show ev T (.tmp a)=T a from rfl,show ev T (.const (.int d n2))= .v (.int d n2) from rfl,q,l,f,m,if_true,p]
      rfl
   ·cases b
  ·cases b
 ·cases b
theorem yQa (c:zpa x y=true) (ha:qsa ops x y=true) (s:p.2.2=[]) (G:q.2.2=[]) (k:jU P ops b p x (jU P ops b q y K) T h):jU P ops b (q.1,q.2.1,[]) y (jU P ops b p x K) T h:=by
 obtain ⟨B,H⟩:=Vz ha
 obtain ⟨C,W,xt,xp,xa,Q⟩:=x
 obtain ⟨g,U,yt,yp,ya,N⟩:=y
 unfold zpa at c
 simp only at c
 split at c
 case h_2=>cases c
 rename_i t m k1 n v t' m' k2 n' v'
 simp only[Bool.and_eq_true,beq_iff_eq,bne_iff_ne,ne_eq] at c
 obtain ⟨⟨⟨⟨⟨i,V⟩,Y⟩,hn⟩,A⟩,j⟩:=c
 subst V Y
 split at i
 case h_2=>cases i
 rename_i a a'
 have i:a=a':=by simpa using i
 subst i
 have A:Q=none:=by cases Q<;>simp_all
 have j:N=none:=by cases N<;>simp_all
 subst A j
 have c3:∀z w,cls (.insert t (.tmp a) z w)≠3:=λz w=>by simp[cls]
 have e:∀(q:Ent) (o:Oper) (K:Env->List Ob->Prop) (T:Env) (h:List Ob) (z w:Operand),q.2.2=[]->o.op= .insert t (.tmp a) z w->o.guard=none->(jU P ops b q o K T h↔∃u h',zt P T h o.op=some (u,h')/\K (zZ T o.dst u) h'):=λq o K T h z w hq M hg=>by
  rw[kX (by rw[M];exact c3 z w),hq]
  simp only[qA,true_and,xK,jT,hg,yKa,vg]
  cases he:zt P T h o.op with
  | none=>simp[M]
  | some r=>obtain ⟨u,h'⟩:=r;simp only[Option.some.injEq,Prod.mk.injEq];exact ⟨λk=>⟨u,h',⟨rfl,rfl⟩,k⟩,λ⟨_,_,⟨F,l⟩,k⟩=>by subst F l;exact k⟩
 rw[e p _ _ T h _ _ s rfl rfl] at k
 obtain ⟨u,h1,F,k⟩:=k
 rw[e q _ _ _ h1 _ _ G rfl rfl] at k
 obtain ⟨u',h2,l,k⟩:=k
 have hy:∀u h,zt P (zZ T C u) h (.insert t (.tmp a) (.const (.int k1 n')) v')=zt P T h (.insert t (.tmp a) (.const (.int k1 n')) v'):=λu h=>by
  cases D:C with
  | none=>rfl
  | some d=>
    have:=(B d D).1
    unfold xr at this
    rw[Bool.or_eq_false_iff] at this
    exact vn _ this.1
 have hx:∀u h,zt P (zZ T g u) h (.insert t (.tmp a) (.const (.int k1 n)) v)=zt P T h (.insert t (.tmp a) (.const (.int k1 n)) v):=λu h=>by
  cases D:g with
  | none=>rfl
  | some d=>
    have:=(H d D).1
    unfold xr at this
    rw[Bool.or_eq_false_iff] at this
    exact vn _ this.1
 simp only at F l
 rw[hy] at l
 obtain ⟨id,es,ζ,S,I,Z,m4,m5,O⟩:=VB F
 obtain ⟨γ,es',J,E,f,o3,o4,o5,o6⟩:=VB l
 rw[S] at E
 injection E with E
 subst E m4 o4 m5
 rw[List.getElem?_set_self (xO I)] at f
 injection f with f
 injection f with f
 subst f
 obtain ⟨R,X,i2⟩:=vRa hn Z o3
 rw[e (q.1,q.2.1,[]) _ _ T h _ _ rfl rfl rfl]
 refine ⟨.v undef,_,O h es R v' n' I X,?_⟩
 rw[e p _ _ _ _ _ _ s rfl rfl]
 simp only
 rw[hx]
 refine ⟨.v undef,_,O _ R J v n (by rw[List.getElem?_set_self (xO I)]) i2,?_⟩
 rw[List.set_set]
 subst o5
 rw[List.set_set] at k
 have L:zZ (zZ T C (.v undef)) g (.v undef)=zZ (zZ T g (.v undef)) C (.v undef):=K1 (x:=⟨C,.insert t (.tmp a) (.const (.int k1 n)) v,xt,xp,xa,none⟩) (y:=⟨g,.insert t (.tmp a) (.const (.int k1 n')) v',yt,yp,ya,none⟩) λd D=>(B d D).2
 simp only at k
 rw[L] at k
 exact k
theorem zra {op:Op} {mk:Nat->AV} {ob:Ob} (b:qy P T op=some (ob,mk)) (a:qta op=true):∀es,ob≠ .mapo es:=by
 intro es e
 subst e
 cases op<;>simp only[qta] at a<;>first
  | cases a;done
  | skip
 all_goals
  simp only[qy] at b
  repeat' split at b
 all_goals first
  | cases b;done
  | (simp only[Option.map_eq_some_iff,Prod.mk.injEq] at b;obtain ⟨_,_,h,_⟩:=b;cases h;done)
theorem xoa {o:Oper} {ob:Ob} {mk:Nat->AV} (a:wF P ops T o=some (some (ob,mk))) (c:qta o.op=true):∀es,ob≠ .mapo es:=by
 have key:(qy P T o.op).map some=some (some (ob,mk))->∀es,ob≠ .mapo es:=λh=>by
  cases b:qy P T o.op with
  | none=>rw[b] at h;cases h
  | some q=>rw[b] at h;injection h with h;injection h with h;subst h;exact zra b c
 unfold wF at a
 split at a
 ·exact key a
 ·split at a
  ·split at a
   ·split at a
    ·exact key a
    ·injection a with a;cases a
   ·injection a with a;cases a
   ·cases a
  ·cases a
theorem vSa {id:Nat} {ob:Ob} {t:TypeId} {m k v:Operand} {u:AV} {j:List Ob} (g:∀es,ob≠ .mapo es) (a:zt P T (h.set id ob) (.insert t m k v)=some (u,j)) (l:h[id]? =some .res):
  ∃h',zt P T h (.insert t m k v)=some (u,h')/\j=h'.set id ob/\h'[id]? =some .res:=by
 simp only[zt] at a⊢
 split at a
 ·rename_i r p i kk n s q o
  split at a
  ·rename_i kk' es f d
   have b:id≠i:=λe=>by
    subst e
    rw[List.getElem?_set_self (List.getElem?_eq_some_iff.1 l).1] at d
    injection d with d
    exact g es d
   rw[List.getElem?_set_ne b] at d
   split at a
   ·rename_i heq
    simp only[f,d,if_pos heq]
    cases c:ZL kk' n (ev T v) es with
    | none=>subst heq;rw[c] at a;cases a
    | some es'=>
      subst heq
      rw[c] at a
      injection a with a;injection a with hx1 hx2;subst hx1 hx2
      refine ⟨_,by rw[c];rfl,by rw[List.set_comm _ _ b],by rw[List.getElem?_set_ne (λe=>b e.symm)];exact l⟩
   ·cases a
  ·cases a
 ·cases a
theorem xpa (j:yNa x y=true) (U:qsa ops x y=true) (R:p.2.2=[]) (i:q.2.2=[]) (k:jU P ops b p x (jU P ops b q y K) T h):jU P ops b (q.1,q.2.1,[]) y (jU P ops b p x K) T h:=by
 obtain ⟨l,F⟩:=Vz U
 simp only[yNa,Bool.and_eq_true] at j
 obtain ⟨⟨A,I⟩,H⟩:=j
 have f:cls x.op=3:=by
  generalize x.op=op at A
  cases op<;>simp only[qta] at A<;>first
   | rfl
   | cases A
 obtain ⟨e,B,D,E,C,J⟩:=y
 simp only at I H
 have H:J=none:=by cases J<;>simp_all
 subst H
 cases B<;>simp only[XPa] at I<;>first
  | cases I;done
  | skip
 rename_i t m kk v
 have G:cls (.insert t m kk v)≠3:=by simp[cls]
 have a:∀(q:Ent) (K:Env->List Ob->Prop) (T:Env) (h:List Ob),q.2.2=[]->(jU P ops b q ⟨e,.insert t m kk v,D,E,C,none⟩ K T h↔∃u h',zt P T h (.insert t m kk v)=some (u,h')/\K (zZ T e u) h'):=λq K T h V=>by
  rw[kX G,V]
  simp only[qA,true_and,xK,jT,yKa,vg]
  cases W:zt P T h (.insert t m kk v) with
  | none=>simp
  | some r=>obtain ⟨u,h'⟩:=r;simp only[Option.some.injEq,Prod.mk.injEq];exact ⟨λk=>⟨u,h',⟨rfl,rfl⟩,k⟩,λ⟨_,_,⟨g,S⟩,k⟩=>by subst g S;exact k⟩
 have c:∀w h,zt P (zZ T x.dst w) h (.insert t m kk v)=zt P T h (.insert t m kk v):=λw h=>by
  cases o:x.dst with
  | none=>rfl
  | some d=>
    have:=(l d o).1
    unfold xr at this
    rw[Bool.or_eq_false_iff] at this
    exact vn _ this.1
 have n:∀u w,zZ (zZ T x.dst u) e w=zZ (zZ T e w) x.dst u:=λu w=>K1 (y:=⟨e,.insert t m kk v,D,E,C,none⟩) λd o=>(l d o).2
 have s:∀w,wF P ops (zZ T e w) x=wF P ops T x:=λw=>J3 (z:=⟨e,.insert t m kk v,D,E,C,none⟩) λd o=>(F d o).1
 rw[ka f,jG] at k
 rw[a _ _ T h rfl]
 cases hex:wF P ops T x with
 | none=>rw[hex] at k;exact k.elim
 | some ex=>
   rw[hex] at k
   cases ex with
   | none=>
     simp only at k
     rw[a _ _ _ _ i] at k
     obtain ⟨u,h',g,k⟩:=k
     rw[c] at g
     refine ⟨u,h',g,?_⟩
     rw[ka f,jG,s,hex]
     simp only
     rw[<-n]
     exact k
   | some L=>
     obtain ⟨ob,mk⟩:=L
     simp only at k
     obtain ⟨k1,k2⟩:=k
     rw[a _ _ _ _ i] at k2
     obtain ⟨u,h',g,k2⟩:=k2
     rw[c] at g
     obtain ⟨N,M,O,Q⟩:=vSa (xoa hex A) g k1
     refine ⟨u,N,M,?_⟩
     rw[ka f,jG,s,hex]
     simp only
     rw[<-n]
     subst O
     exact ⟨Q,k2⟩
theorem Wca {l2:List Nat} (I:ops[p.1]? =some x) (hs:Zc ops p q x y=true) (hp:cls x.op≠2->p.2.2=[]) (hq:cls y.op≠2->q.2.2=[]) (X:ops[q.1]? =some y)
  (A:∀l∈l2,l∈q.2.2/\xZ ops l p.1=true) (Y:∀l∈p.2.2,xZ ops l q.1=true) (ρ:∀l,l∈q.2.2->l∉l2->l=p.1)
  (hr:cls y.op=3->h[b+q.2.1]? =some .res) (μ:cls x.op=3->cls y.op=3->p.2.1≠q.2.1) (N:p.1∈q.2.2->∀d,x.dst=some d->xr ops x d=false)
  (k:jU P ops b p x (jU P ops b q y K) T h):jU P ops b (q.1,q.2.1,l2) y (jU P ops b p x K) T h:=by
 simp only[Zc,Bool.and_eq_true,Bool.or_eq_true,beq_iff_eq,bne_iff_ne,ne_eq,decide_eq_true_eq] at hs
 obtain ⟨ha,hs⟩:=hs
 obtain ⟨w,C⟩:=Vz ha
 have Q:cls y.op=3->jU P ops b (q.1,q.2.1,l2) y (jU P ops b p x K) T h:=λhy=>by
  have R:=hr hy
  rw[ka hy,jG]
  have g:∀v h',jU P ops b q y K (zZ T x.dst v) h'↔match wF P ops T y with
    | some (some (ob,mk))=>h'[b+q.2.1]? =some .res/\K (zZ (zZ T x.dst v) y.dst (mk (b+q.2.1))) (h'.set (b+q.2.1) ob)
    | some none=>K (zZ (zZ T x.dst v) y.dst (.v undef)) h'
    | none=>False:=λv h'=>by
   rw[ka hy,jG,J3 (λd c=>(w d c).1)]
  have H:∀u v,zZ (zZ T x.dst u) y.dst v=zZ (zZ T y.dst v) x.dst u:=λu v=>K1 λd c=>(w d c).2
  have E:∀d,y.dst=some d->xr ops x d=false:=λd c=>(C d c).1
  by_cases G:cls x.op=3
  ·rw[ka G,jG] at k
   have J:wF P ops (zZ T y.dst (.v undef)) x=wF P ops T x/\∀v,wF P ops (zZ T y.dst v) x=wF P ops T x:=⟨J3 E,λv=>J3 E⟩
   cases hex:wF P ops T x with
   | none=>rw[hex] at k;exact k.elim
   | some ex=>
     rw[hex] at k
     have L:b+p.2.1≠b+q.2.1:=λe=>μ G hy (by omega)
     cases ex with
     | none=>
       simp only at k
       rw[g] at k
       cases i:wF P ops T y with
       | none=>rw[i] at k;exact k.elim
       | some U=>cases U with
         | none=>simp only[i] at k ⊢;rw[ka G,jG,J.2,hex];simp only;rw[<-H];exact k
         | some V=>obtain ⟨ob,mk⟩:=V;simp only[i] at k ⊢;refine ⟨R,?_⟩;rw[ka G,jG,J.2,hex];simp only;rw[<-H];exact k.2
     | some ox=>
       obtain ⟨ox,mx⟩:=ox
       simp only at k
       obtain ⟨k1,k2⟩:=k
       rw[g] at k2
       cases i:wF P ops T y with
       | none=>rw[i] at k2;exact k2.elim
       | some U=>cases U with
         | none=>simp only[i] at k2 ⊢;rw[ka G,jG,J.2,hex];simp only;rw[<-H];exact ⟨k1,k2⟩
         | some V=>
           obtain ⟨ob,mk⟩:=V
           simp only[i] at k2⊢
           refine ⟨R,?_⟩
           rw[ka G,jG,J.2,hex]
           simp only
           rw[<-H,List.getElem?_set_ne (λe=>L e.symm),List.set_comm _ _ (λe=>L e.symm)]
           exact ⟨k1,k2.2⟩
  ·rw[kX G] at k
   obtain ⟨v0,h0,k0,_⟩:=VA k
   have k0:=(g v0 h0).1 k0.2
   cases i:wF P ops T y with
   | none=>rw[i] at k0;exact k0.elim
   | some U=>cases U with
     | none=>
       simp only
       rw[kX G]
       have:xK P ops x (λj a=>qA P ops j a p.2.2/\K (zZ j y.dst (.v undef)) a) T h:=jF (yI k) λj a ⟨⟨f,m⟩,⟨v,e⟩,_⟩=>by
        subst e
        refine ⟨f,?_⟩
        have:=(g v a).1 m
        rw[i] at this
        exact this
       have ζ:xK P ops x (λj a=>qA P ops j a p.2.2/\K j a) (zZ T y.dst (.v undef)) h:=by
        cases c:y.dst with
        | none=>
          rw[c] at this
          exact this
        | some d=>
          rw[c] at this
          show xK P ops x _ (upd T d (.v undef)) h
          rw[QK (C d c).1 (C d c).2]
          refine jF this λj a ⟨f,m⟩=>⟨?_,m⟩
          rw[jj] at f⊢
          intro l o
          have:=(QL (P:=P) (T:=j) (h:=a) (v:= .v undef) (p:=q) X (Y l o)).2 (f l o)
          rw[c] at this
          exact this
       exact ζ
     | some V=>
       obtain ⟨ob,mk⟩:=V
       simp only
       refine ⟨R,?_⟩
       have O:=vQa i
       rw[kX G]
       have key:xK P ops x (λj a=>qA P ops j a p.2.2/\K (zZ j y.dst (mk (b+q.2.1))) a) T (h.set (b+q.2.1) ob):=by
        refine zoa k (λk=>yPa k R O λv h' δ ⟨f,m⟩=>?_) λ⟨f,m⟩=>?_
        ·have m:=(g v h').1 m
         rw[i] at m
         refine ⟨?_,m.2⟩
         rw[jj] at f⊢
         exact λl o=>qxa (f l o) (δ _ R) O
        ·have m:=(g _ h).1 m
         rw[i] at m
         refine ⟨?_,m.2⟩
         rw[jj] at f⊢
         exact λl o=>qxa (f l o) R O
       cases c:y.dst with
       | none=>rw[c] at key;exact key
       | some d=>
         rw[c] at key
         show xK P ops x _ (upd T d (mk (b+q.2.1))) (h.set (b+q.2.1) ob)
         rw[QK (C d c).1 (C d c).2]
         refine jF key λj a ⟨f,m⟩=>⟨?_,m⟩
         rw[jj] at f⊢
         intro l o
         have:=(QL (P:=P) (T:=j) (h:=a) (v:=mk (b+q.2.1)) (p:=q) X (Y l o)).2 (f l o)
         rw[c] at this
         exact this
 rcases hs with (((((⟨κ,M⟩ | ⟨θ,Z⟩) | M) | ⟨⟨θ,ο⟩,s⟩) | ⟨⟨F,B⟩,n⟩) | ⟨⟨F,B⟩,n⟩)
 ·
  have z:=hp (by omega)
  rw[j7 (by omega) z] at k
  obtain ⟨D,h1,a⟩:=k
  rw[kX M] at a⊢
  have S:xK P ops y (λj a=>qA P ops j a l2/\K (zZ j x.dst D) a) T h:=by
   cases c:x.dst with
   | none=>rw[c] at a;exact jF a λj a ⟨f,m⟩=>⟨by rw[jj] at f ⊢;exact λl o=>f l (A l o).1,m⟩
   | some d=>
     rw[c] at a
     have a:xK P ops y _ (upd T d D) h:=a
     rw[QK (w d c).1 (w d c).2] at a
     refine jF a λj a ⟨f,m⟩=>⟨?_,m⟩
     rw[jj] at f⊢
     intro l o
     have:=f l (A l o).1
     refine (QL (P:=P) (T:=j) (h:=a) (v:=D) I (A l o).2).1 ?_
     rw[c];exact this
  refine jF (yI S) λj a ⟨⟨f,m⟩,⟨v,e⟩,_⟩=>⟨f,?_⟩
  subst e
  refine (j7 (by omega) z).2 ⟨D,?_,m⟩
  rw[J2 λd c=>(C d c).1,vNa κ a h]
  exact h1
 ·have z:=hp (by omega)
  have W:=hq (by omega)
  have t:l2=[]:=by
   cases l2 with
   | nil=>rfl
   | cons l r=>have:=(A l (by simp)).1;rw[W] at this;cases this
  subst t
  rw[j7 (by omega) z] at k
  obtain ⟨D,h1,a⟩:=k
  rw[j7 Z W] at a
  obtain ⟨vy,S,h4⟩:=a
  rw[J2 λd c=>(w d c).1] at S
  refine (j7 (q:=(q.1,q.2.1,[])) Z rfl).2 ⟨vy,S,(j7 (by omega) z).2 ⟨D,?_,?_⟩⟩
  ·rw[J2 λd c=>(C d c).1];exact h1
  ·rw[<-K1 λd c=>(w d c).2];exact h4
 ·exact Q M
 ·
  have z:=hp (by omega)
  rw[j7 (by omega) z] at k
  obtain ⟨D,h1,a⟩:=k
  rw[kX (by omega)] at a⊢
  have s:p.1∈q.2.2:=by simpa using s
  have S:xK P ops y (λj a=>(qA P ops j a l2/\yG P ops j a x=some D)/\K (zZ j x.dst D) a) T h:=by
   have ε:∃d,x.dst=some d:=by
    obtain ⟨v0,h0,⟨f,_⟩,_⟩:=VA a
    rw[jj] at f
    have:=f p.1 s
    unfold wc at this
    rw[I] at this
    simp only at this
    cases c:x.dst with
    | none=>rw[c] at this;exact this.elim
    | some d=>exact ⟨d,rfl⟩
   obtain ⟨d,c⟩:=ε
   rw[c] at a⊢
   have a:xK P ops y _ (upd T d D) h:=a
   rw[QK (w d c).1 (w d c).2] at a
   refine jF (yI a) λj a ⟨⟨f,m⟩,⟨v,e⟩,_⟩=>⟨⟨?_,?_⟩,m⟩
   ·rw[jj] at f⊢
    intro l o
    have:=f l (A l o).1
    refine (QL (P:=P) (T:=j) (h:=a) (v:=D) I (A l o).2).1 ?_
    rw[c];exact this
   ·rw[jj] at f
    have:=f p.1 s
    unfold wc at this
    rw[I] at this
    simp only[c] at this
    rw[qua (N s d c)] at this
    rw[this];simp[upd]
  refine jF (yI S) λj a ⟨⟨⟨f,q0⟩,m⟩,⟨v,e⟩,_⟩=>⟨f,?_⟩
  exact (j7 (by omega) z).2 ⟨D,q0,m⟩
 ·
  have B:p.2.2=[]:=by simpa using B
  have n:q.2.2=[]:=by simpa using n
  have t:l2=[]:=by
   cases l2 with
   | nil=>rfl
   | cons l r=>have:=(A l (by simp)).1;rw[n] at this;cases this
  subst t
  exact yQa F ha B n k
 ·have B:p.2.2=[]:=by simpa using B
  have n:q.2.2=[]:=by simpa using n
  have t:l2=[]:=by
   cases l2 with
   | nil=>rfl
   | cons l r=>have:=(A l (by simp)).1;rw[n] at this;cases this
  subst t
  exact xpa F ha B n k
end
end Go.Proofs.YtfmldcilgbbimaaGreat.Ax
