import Derived.Test.YtigdlmpjijhpaaaGreatBA
import Derived.Test.YtigdlmpjijhpaaaGreatB07
set_option linter.all false
namespace Go.Proofs.YtigdlmpjijhpaaaGreat.Ax
open Go Go.RowKit
abbrev Ent:=Nat × Nat × List Nat
def ww(P:Program)(ops:Array Oper)(T:Env)(h:List Ob)(l:Nat):Prop:=match ops[l]? with
 | some o=>match o.dst with
   | some d=>Z6 P ops T h o=some (T d)
   | none=>False
 | none=>False
def ju(P:Program)(ops:Array Oper)(T:Env)(h:List Ob):List Nat->Prop
 | []=>True
 | l::r=>ww P ops T h l/\ju P ops T h r
def kO(P:Program)(ops:Array Oper)(b:Nat)(q:Ent)(o:Oper)(K:Env->List Ob->Prop)(T:Env)(h:List Ob):Prop:=
 if cls o.op=3 then Yq P ops (b+q.2.1) o K T h else vD P ops o (λT h=>ju P ops T h q.2.2/\K T h) T h
def wpE(P:Program)(ops:Array Oper)(b:Nat)(K:Env->List Ob->Prop):List Ent->Env->List Ob->Prop
 | [],T,h=>K T h
 | q::r,T,h=>match ops[q.1]? with
   | some o=>kO P ops b q o (wpE P ops b K r) T h
   | none=>False
def xl(o:Oper):List Nat:=(o.after.toList.filter (Region.binds .any)).map (·.on)
def Qd(ops:Array Oper):Nat->Nat->Nat->Bool
 | 0,j,i=>match ops[i]? with
   | some o=>(xl o).contains j
   | none=>false
 | f+1,j,i=>match ops[i]? with
   | some o=>(xl o).contains j || (xl o).any λk=>decide (j<k) && Qd ops f j k
   | none=>false
def jAa(x y:Oper):Bool:=match x.op,y.op with
 | .insert t m (.const (.int k n)) _,.insert c d (.const (.int k' n')) _=>(match m,d with
   | .tmp a,.tmp b=>a==b
   | _,_=>false) && t==c && k==k' && n != n' && x.guard.isNone && y.guard.isNone
 | _,_=>false
def xDa:Op->Bool
 | .alloc .. | .box .. | .buildSlice .. | .makeSlice .. =>true
 | _=>false
def WYa:Op->Bool
 | .insert .. =>true
 | _=>false
def Jra(x y:Oper):Bool:=xDa x.op && WYa y.op && y.guard.isNone
def vR(ops:Array Oper)(l p:Nat):Bool:=match ops[l]?,ops[p]? with
 | some a,some b=>match b.dst with
   | some d=> !vj ops a d && a.dst != some d
   | none=>true
 | _,_=>false
def QF(ops:Array Oper)(p q:Ent)(x y:Oper):Bool:=xCa ops x y &&
 ((cls x.op==0 && cls y.op != 3) || (cls x.op==1 && decide (cls y.op<=1)) || cls y.op==3 || (cls x.op==1 && cls y.op==2 && q.2.2.contains p.1) || (jAa x y && p.2.2.isEmpty && q.2.2.isEmpty) || (Jra x y && p.2.2.isEmpty && q.2.2.isEmpty))
def yw(ops:Array Oper)(p q:Ent):Bool:=match ops[p.1]?,ops[q.1]? with
 | some x,some y=>(Qd ops 8 p.1 q.1 || QF ops p q x y) && !Qd ops 8 q.1 p.1 && !p.2.2.contains q.1 && (cls x.op != 3 || cls y.op != 3 || p.2.1 != q.2.1)
 | _,_=>false
def Kz(ops:Array Oper):List Ent->Bool
 | []=>true
 | x::r=>r.all (yw ops x) && Kz ops r
def Zu(ops:Array Oper):Nat->List Oper->Bool
 | _,[]=>true
 | i,o::r=>(xl o).all (λj=>decide (j<i)) && Zu ops (i+1) r
def ZY(ops:Array Oper)(l:Nat):Bool:=(match ops[l]? with
 | some o=>decide (cls o.op<=1) && (match o.dst with
   | some d=> !vj ops o d
   | none=>false)
 | none=>false) && (List.range ops.size).all λp=>p==l || Qd ops 8 p l || vR ops l p
def yia(ops:Array Oper)(k:Nat)(q:Ent):Bool:=match ops[q.1]? with
 | some o=>(cls o.op==2 || q.2.2.isEmpty) && (cls o.op != 3 || decide (q.2.1<k)) && !q.2.2.contains q.1 && q.2.2.all (ZY ops)
 | none=>false
def Jy(ops:Array Oper)(k:Nat)(a:List Ent):Bool:=
 Kz ops a && Zu ops 0 ops.toList && a.all (yia ops k) && (List.range ops.size).all (λi=>(a.map (·.1)).contains i) && decide (a.map (·.1)).Nodup && decide (a.length<=ops.size)
section
variable {P:Program} {N:Nat} {B:Bs} {ops:Array Oper} {T:Env} {h:List Ob} {K K':Env->List Ob->Prop} {b:Nat} {p q:Ent} {x y:Oper}
theorem jQ{l:List Nat}:ju P ops T h l↔∀i∈l,ww P ops T h i:=by
 induction l with
 | nil=>simp[ju]
 | cons i l a=>simp[ju,a]
theorem qAa{o:Oper}(a:cls o.op<=1):wV P T h o K↔∃x,(qc P T h o.op).map (·.1)=some x/\K (qW T o.dst x) h:=by
 unfold wV
 cases d:qc P T h o.op with
 | some q=>
   obtain⟨x,h'⟩:=q
   have:=vFa a d
   subst this
   simp
 | none=>
   simp only[Option.map_none]
   constructor
   ·intro k
    generalize o.op=op at k a d
    cases op<;>first
     | exact k.elim
     | skip
    rename_i c
    obtain⟨callee,args,f⟩:=c
    cases callee with
    | builtin b=>exact k.elim
    | value x=>simp[cls] at a
    | invoke r m=>exact k.elim
   ·rintro ⟨x,e,_⟩;cases e
theorem vGa{o:Oper}(c:cls o.op<=1):vD P ops o K T h↔∃x,Z6 P ops T h o=some x/\K (qW T o.dst x) h:=by
 unfold vD kN Z6 Joa
 cases o.guard with
 | none=>exact qAa c
 | some q=>
   obtain⟨j,a⟩:=q
   simp only[]
   cases (ops[j]?).bind (·.dst) with
   | none=>simp
   | some d=>
     simp only[]
     split
     ·rename_i b _
      by_cases e:b=a
      ·subst e
       simp only[true_implies,ne_eq,not_true_eq_false,false_implies,and_true,if_true]
       exact qAa c
      ·simp[e]
     ·simp
     ·simp
theorem Zqa{op:Op}(a:cls op=0)(h h':List Ob):(qc P T h op).map (·.1)=(qc P T h' op).map (·.1):=by
 cases op<;>simp only[cls] at a<;>try (omega;done)
 case binOp op t y z u=>
  have e:¬ J7 z=true:=λh=>by rw[if_pos h] at a;omega
  simp only[qc,if_neg e]
  simp[Option.map_map,Function.comp_def]
 case build t ps=>
  simp only[qc]
  repeat' split
  all_goals first|rfl|skip
  all_goals
   cases (zO P t).zero with
   | none=>rfl
   | some z=>simp only[Option.bind_some];simp[Option.map_map,Function.comp_def]
 case fieldAddr t y i=>
  simp only[qc]
  split
  ·rename_i d _
   cases d[i]? with
   | none=>rfl
   | some f=>
     simp only[Option.bind_some]
     split
     ·split<;>rfl
     ·rfl
  ·rfl
 case field t y i=>
  simp only[qc]
  split
  ·rename_i d _ _ _
   cases d[i]? with
   | none=>rfl
   | some f=>
     simp only[Option.bind_some]
     split
     ·simp[Option.map_map,Function.comp_def]
     ·rfl
  ·rfl
 case call c=>
  obtain⟨callee,args,g⟩:=c
  cases callee with
  | builtin b=>
    cases b<;>simp at a
    ·simp only[qc,Qc]
     split<;>simp_all [Function.comp_def]
    ·simp only[qc,Qc]
     split<;>simp_all [Function.comp_def]
  | value x=>simp at a
  | invoke r m=>simp at a
 all_goals
  simp only[qc]
  repeat' split
 all_goals first|rfl|simp[Option.map_map,Function.comp_def]
theorem Zra{o:Oper}(a:cls o.op=0)(h h':List Ob):Z6 P ops T h o=Z6 P ops T h' o:=by
 unfold Z6
 rw[Zqa a h h']
theorem xEa{o:Oper}{d:Nat}{x:AV}(a:vj ops o d=false):Z6 P ops (upd T d x) h o=Z6 P ops T h o:=by
 unfold vj at a
 rw[zY] at a
 unfold Z6
 cases g:o.guard with
 | none=>simp only[ye o.op a.1]
 | some q=>
   obtain⟨j,c⟩:=q
   rw[g] at a
   simp only[]
   cases f:(ops[j]?).bind (·.dst) with
   | none=>rfl
   | some e=>
     have b:e≠d:=λh=>by
      have:=a.2
      simp[f,h] at this
     have i:upd T d x e=T e:=by simp[upd,b]
     simp only[i,ye o.op a.1]
theorem KA{o y:Oper}{v:AV}(b:∀d,y.dst=some d->vj ops o d=false):Z6 P ops (qW T y.dst v) h o=Z6 P ops T h o:=by
 cases a:y.dst with
 | none=>rfl
 | some d=>exact xEa (b d a)
theorem WQ{x y:Oper}{u v:AV}(a:∀d,x.dst=some d->y.dst≠some d):qW (qW T x.dst u) y.dst v=qW (qW T y.dst v) x.dst u:=by
 cases b:x.dst with
 | none=>rfl
 | some d=>
   have:=a d b
   exact Ky (T:=T) (x:=u) (y:=v) this
theorem xFa{o:Oper}(k:wV P T h o K):wV P T h o λf b=>K f b/\(∃v,f=qW T o.dst v)/\ResK h b:=by
 unfold wV at*
 split
 ·rename_i x h' a
  rw[a] at k
  exact⟨k,⟨x,rfl⟩,(ZW (φ:=λ_=> .res) (λ_ _=>rfl) _ a).2⟩
 ·rename_i a
  rw[a] at k
  clear a
  generalize o.op=op at k⊢
  cases op<;>first
   | exact k.elim
   | skip
  rename_i c
  simp only at k⊢
  cases i:Zd T c with
  | none=>rw[i] at k;exact k.elim
  | some q=>
    rw[i] at k
    obtain⟨k1,⟨r,h',k2,k3⟩,k4⟩:=k
    refine⟨k1,⟨r,h',⟨k2,⟨r,rfl⟩,k3⟩,k3⟩,λφ n B w g vs t m s=>(k4 φ n B w g vs t m s).mono λe w' ⟨v,r,h',g',p,l,d,j⟩=>⟨v,r,h',g',p,⟨l,⟨r,rfl⟩,d⟩,d,j⟩⟩
theorem Qe{o:Oper}(k:vD P ops o K T h):vD P ops o (λa b=>K a b/\(∃v,a=qW T o.dst v)/\ResK h b) T h:=
 Jx k xFa λk=>⟨k,⟨_,rfl⟩,.refl⟩
theorem xGa{id:Nat}{ob:Ob}(hi:h[id]? =some .res):Upto (λi=>if i=id then ob else .res) h.length:=λi a=>by
 have:=(zd.1 hi).1
 exact if_neg (by omega)
theorem Jz{φ:Nat->Ob}{id:Nat}{ob:Ob}(hi:h[id]? =some .res)(b:ob.isRes=false):fill (λi=>if i=id then ob else φ i) h=fill φ (h.set id ob):=by
 apply qP
 intro j
 rw[wG,wG]
 by_cases a:id=j
 ·subst a
  rw[hi,zo (zd.1 hi).1]
  simp only[Option.map_some,Kr]
  rw[if_pos (show(Ob.res).isRes=true from rfl),if_pos trivial,if_neg (by rw[b];simp)]
 ·rw[zc a]
  cases h[j]? with
  | none=>rfl
  | some o=>simp[Kr,show j≠id from λe=>a e.symm]
theorem We{id:Nat}{ob:Ob}(hi:h[id]? =some .res)(a:ob.isRes=false):fill (λi=>if i=id then ob else .res) h=h.set id ob:=by
 rw[Jz (φ:=λ_=> .res) hi a,qoa]
theorem qBa{id:Nat}{ob:Ob}{op:Op}{x:AV}{h':List Ob}(d:qc P T h op=some (x,h'))(hi:h[id]? =some .res)(b:ob.isRes=false):qc P T (h.set id ob) op=some (x,h'.set id ob)/\ResK h h':=by
 obtain⟨c,a⟩:=ZW (xGa (ob:=ob) hi) op d
 rw[We hi b,We (a id hi) b] at c
 exact⟨c,a⟩
theorem KUa{o:Oper}{id:Nat}{ob:Ob}{v:AV}(a:Z6 P ops T h o=some v)(hi:h[id]? =some .res)(k:ob.isRes=false):Z6 P ops T (h.set id ob) o=some v:=by
 have key:∀v,(qc P T h o.op).map (·.1)=some v->(qc P T (h.set id ob) o.op).map (·.1)=some v:=λv b=>by
  cases c:qc P T h o.op with
  | none=>rw[c] at b;cases b
  | some q=>
    obtain⟨y,h'⟩:=q
    rw[c] at b
    rw[(qBa c hi k).1]
    exact b
 unfold Z6 at*
 cases f:o.guard with
 | none=>simp only[f] at a ⊢;exact key v a
 | some q=>
   obtain⟨j,g⟩:=q
   simp only[f] at a⊢
   cases i:(ops[j]?).bind (·.dst) with
   | none=>simp only[i] at a;cases a
   | some d=>
     simp only[i] at a⊢
     split at a
     ·split at a
      ·rename_i e;rw[if_pos e];exact key v a
      ·rename_i e;rw[if_neg e];exact a
     ·exact a
     ·cases a
theorem KVa{id:Nat}{ob:Ob}{h':List Ob}(k:ResK h h'):ResK (h.set id ob) (h'.set id ob)∨(h.set id ob)[id]? =some .res:=by
 by_cases b:(h.set id ob)[id]? =some .res
 ·exact .inr b
 ·refine .inl λj a=>?_
  by_cases e:id=j
  ·subst e;exact absurd a b
  ·rw[zc e] at a ⊢;exact k j a
theorem Zsa{f:FuncId}{aZ:List AV}{R:AV->List Ob->Prop}{id:Nat}{ob:Ob}(c:ACalls P f aZ h R)(hi:h[id]? =some .res)(b:ob.isRes=false):ACalls P f aZ (h.set id ob) λr h''=>∃h',h''=h'.set id ob/\R r h'/\ResK h h':=by
 have l:=(zd.1 hi).1
 have n:(h.set id ob)[id]? ≠some .res:=λe=>by
  rw[zo l] at e;injection e with e;subst e;cases b
 have a:∀h',ResK h h'->ResK (h.set id ob) (h'.set id ob):=λh' k=>by
  rcases KVa (id:=id) (ob:=ob) k with k|k
  ·exact k
  ·exact absurd k n
 obtain⟨y,⟨r,h',A,q⟩,u⟩:=c
 refine⟨y,⟨r,h'.set id ob,⟨h',rfl,A,q⟩,a h' q⟩,λφ D B w g vs t x s=>?_⟩
 have j:Upto (λi=>if i=id then ob else φ i) h.length:=λi m=>by
  have:i≠id:=by omega
  simp only[if_neg this]
  exact D i (by simpa using m)
 rw[<-Jz hi b] at t s
 refine(u _ j B w g vs t x s).mono λe w' ⟨v,r,h',g',z,C,d,o,p⟩=>?_
 rw[Jz hi b,Jz (d id hi) b] at o
 rw[Jz (d id hi) b] at p
 exact⟨v,r,h'.set id ob,g',z,⟨h',rfl,C,d⟩,a h' d,o,p⟩
theorem KWa{o:Oper}{id:Nat}{ob:Ob}(k:wV P T h o K)(hi:h[id]? =some .res)(i:ob.isRes=false):wV P T (h.set id ob) o λe j=>∃h',j=h'.set id ob/\K e h'/\(∃v,e=qW T o.dst v)/\ResK h h':=by
 have k:=xFa k
 unfold wV at k⊢
 split at k
 ·rename_i x h' d
  rw[(qBa d hi i).1]
  exact⟨h',rfl,k⟩
 ·rename_i d
  split at k
  ·rename_i c q
   have b:qc P T (h.set id ob) o.op=none:=by
    rw[q] at d⊢
    split at k
    ·rename_i f aZ a
     obtain⟨callee,args,s⟩:=c
     unfold Zd at a
     split at a
     ·rename_i X g;simp only at g;subst g;rfl
     ·cases a
    ·exact k.elim
   rw[b]
   simp only
   split at k
   ·rename_i f aZ a
    exact(Zsa k hi i).mono λr h'' ⟨h',p,⟨n,l,m⟩,_⟩=>⟨h',p,n,l,m⟩
   ·exact k.elim
  ·exact k.elim
theorem Yr(b:xCa ops x y=true):(∀d,x.dst=some d->vj ops y d=false/\y.dst≠some d)/\(∀d,y.dst=some d->vj ops x d=false/\x.dst≠some d):=by
 simp only[xCa,zl] at b
 have c:∀d,x.dst=some d->vj ops y d=false/\y.dst≠some d:=λd a=>by
  have:=b.1
  rw[a] at this
  simpa using this
 refine⟨c,λd a=>⟨?_,λe=>(c d e).2 a⟩⟩
 have:=b.2
 rw[a] at this
 simpa using this
theorem z1a{l:Nat}{a:Oper}(f:ops[l]? =some a)(e:ops[p.1]? =some x)(b:vR ops l p.1=true):(∀d,x.dst=some d->vj ops a d=false)/\(∀d,x.dst=some d->a.dst≠some d):=by
 unfold vR at b
 rw[f,e] at b
 simp only at b
 refine⟨λd c=>?_,λd c=>?_⟩<;>(rw[c] at b;simp at b)
 ·exact b.1
 ·exact b.2
theorem vHa{d:Nat}{v:AV}(b:x.dst≠some d):qW T x.dst v d=T d:=by
 cases a:x.dst with
 | none=>rfl
 | some e=>simp only[qW,upd];rw[if_neg];intro h;exact b (by rw[a,h])
theorem Xd{l:Nat}{v:AV}(b:ops[p.1]? =some x)(f:vR ops l p.1=true):ww P ops (qW T x.dst v) h l↔ww P ops T h l:=by
 unfold ww
 cases j:ops[l]? with
 | none=>simp
 | some a=>
   simp only
   obtain⟨c,g⟩:=z1a j b f
   cases i:a.dst with
   | none=>simp
   | some d=>
     simp only
     rw[KA c,vHa λe=>g d e i]
theorem xHa{l id:Nat}{ob:Ob}(k:ww P ops T h l)(hi:h[id]? =some .res)(e:ob.isRes=false):ww P ops T (h.set id ob) l:=by
 unfold ww at*
 cases c:ops[l]? with
 | none=>rw[c] at k;exact k
 | some a=>
   rw[c] at k
   simp only at k⊢
   cases b:a.dst with
   | none=>rw[b] at k;exact k
   | some d=>rw[b] at k;exact KUa k hi e
theorem wJ{o:Oper}(a:cls o.op≠3):kO P ops b q o K T h=vD P ops o (λT h=>ju P ops T h q.2.2/\K T h) T h:=if_neg a
theorem vS{o:Oper}(a:cls o.op=3):kO P ops b q o K T h=Yq P ops (b+q.2.1) o K T h:=if_pos a
theorem kU{o:Oper}(a:cls o.op<=1)(c:q.2.2=[]):kO P ops b q o K T h↔∃x,Z6 P ops T h o=some x/\K (qW T o.dst x) h:=by
 rw[wJ (by omega),c]
 simp only[ju,true_and]
 exact vGa a
theorem Zta{id:Nat}{o:Oper}(k:Jw P id o K T h):Jw P id o (λc b=>K c b/\(∃v,c=qW T o.dst v)/\∀j,j≠id->h[j]? =some .res->b[j]? =some .res) T h:=by
 unfold Jw at*
 split
 ·rename_i ob mk a
  rw[a] at k
  exact⟨k.1,k.2,⟨_,rfl⟩,λj d f=>by rw[zc (λe=>d e.symm)];exact f⟩
 ·rename_i a;rw[a] at k;exact k
theorem vIa{o:Oper}(k:kO P ops b q o K T h)(d:∀e h',(∀j,(cls o.op=3->j≠b+q.2.1)->h[j]? =some .res->h'[j]? =some .res)->K e h'->K' e h'):kO P ops b q o K' T h:=by
 by_cases c:cls o.op=3
 ·rw[vS c] at k⊢
  refine Jx k (λk=>vDa (Zta k) λi g ⟨k,_,a⟩=>d _ _ (λj f=>a j (f c)) k) (d _ _ λj _ a=>a)
 ·rw[wJ c] at k⊢
  exact kp (Qe k) λi g ⟨⟨k1,k2⟩,_,a⟩=>⟨k1,d _ _ (λj _=>a j) k2⟩
def Zv(P:Program)(ops:Array Oper)(T:Env)(o:Oper):Option (Option (Ob × (Nat->AV))):=match o.guard with
 | none=>(jA P T o.op).map some
 | some (j,a)=>match (ops[j]?).bind (·.dst) with
   | some d=>match T d with
     | .v (.bool b)=>if b=a then(jA P T o.op).map some else some none
     | .v (.tuple _)=>some none
     | _=>none
   | none=>none
theorem kr{id:Nat}{o:Oper}:Yq P ops id o K T h↔match Zv P ops T o with
  | some (some (ob,mk))=>h[id]? =some .res/\K (qW T o.dst (mk id)) (h.set id ob)
  | some none=>K (qW T o.dst (.v undef)) h
  | none=>False:=by
 unfold Yq kN Zv Jw
 cases o.guard with
 | none=>cases jA P T o.op<;>simp
 | some q=>
   obtain⟨j,a⟩:=q
   simp only[]
   cases (ops[j]?).bind (·.dst) with
   | none=>simp
   | some d=>
     simp only[]
     generalize T d=td
     split
     ·rename_i b
      by_cases c:b=a
      ·subst c
       cases jA P T o.op<;>simp
      ·simp[c]
     ·simp
     ·rename_i n1 n2
      split
      ·rename_i heq
       split at heq
       ·exact absurd rfl (n1 _)
       ·cases heq
       ·cases heq
      ·rename_i heq
       split at heq
       ·exact absurd rfl (n1 _)
       ·exact absurd rfl (n2 _)
       ·cases heq
      ·rfl
theorem Jsa{o:Oper}{d:Nat}{v:AV}(a:vj ops o d=false):Zv P ops (upd T d v) o=Zv P ops T o:=by
 unfold vj at a
 rw[zY] at a
 unfold Zv
 cases g:o.guard with
 | none=>simp only[XV o.op a.1]
 | some q=>
   obtain⟨j,c⟩:=q
   rw[g] at a
   simp only[]
   cases f:(ops[j]?).bind (·.dst) with
   | none=>rfl
   | some e=>
     have b:e≠d:=λh=>by
      have:=a.2
      simp[f,h] at this
     have i:upd T d v e=T e:=by simp[upd,b]
     simp only[i,XV o.op a.1]
theorem KB{o z:Oper}{v:AV}(b:∀d,z.dst=some d->vj ops o d=false):Zv P ops (qW T z.dst v) o=Zv P ops T o:=by
 cases a:z.dst with
 | none=>rfl
 | some d=>exact Jsa (b d a)
theorem Zua{o:Oper}{ob:Ob}{mk:Nat->AV}(a:Zv P ops T o=some (some (ob,mk))):ob.isRes=false:=by
 have key:(jA P T o.op).map some=some (some (ob,mk))->ob.isRes=false:=λh=>by
  cases b:jA P T o.op with
  | none=>rw[b] at h;cases h
  | some q=>rw[b] at h;injection h with h;injection h with h;subst h;exact xya b
 unfold Zv at a
 split at a
 ·exact key a
 ·split at a
  ·split at a
   ·split at a
    ·exact key a
    ·injection a with a;cases a
   ·injection a with a;cases a
   ·cases a
  ·cases a
theorem qCa{o:Oper}(k:wV P T h o K):∃v h',K (qW T o.dst v) h'/\ResK h h':=by
 unfold wV at k
 split at k
 ·rename_i x h' a;exact⟨x,h',k,(ZW (φ:=λ_=> .res) (λ_ _=>rfl) _ a).2⟩
 ·split at k
  ·split at k
   ·obtain⟨_,⟨r,h',k2,k3⟩,_⟩:=k;exact⟨r,h',k2,k3⟩
   ·exact k.elim
  ·exact k.elim
theorem Ys{o:Oper}(k:vD P ops o K T h):∃v h',K (qW T o.dst v) h'/\ResK h h':=by
 unfold vD kN at k
 split at k
 ·exact qCa k
 ·rename_i j a d
  split at k
  ·split at k
   ·rename_i b _
    by_cases c:b=a
    ·exact qCa (k.1 c)
    ·exact⟨_,h,k.2 c,.refl⟩
   ·exact⟨_,h,k,.refl⟩
   ·exact k.elim
  ·exact k.elim
theorem Jta{o:Oper}{id:Nat}{ob:Ob}(k:wV P T h o K)(hi:h[id]? =some .res)(e:ob.isRes=false)(f:∀v h',ResK h h'->K (qW T o.dst v) h'->K' (qW T o.dst v) (h'.set id ob)):wV P T (h.set id ob) o K':=
 Xb (KWa k hi e) λi g ⟨h',d,a,⟨v,c⟩,b⟩=>by subst d c;exact f v h' b a
section
variable {kk:IntKind} {n n':Int} {v v':AV}
theorem Zw(a:n≠n'):∀(es:List (AV × AV)),kL n' (j5 kk n v es)=kL n' es
 | []=>by simp[j5,kL,kY,a]
 | e::r=>by
   unfold j5
   split
   ·simp[kL,kY,a]
   ·simp[kL,Zw a r]
theorem yf(a:n≠n'):∀(es:List (AV × AV)),kL n' (xv kk n v es)=kL n' es
 | []=>rfl
 | e::r=>by
   unfold xv
   split
   ·rename_i h
    have k1:kY (.v (.int kk n),v)=n:=rfl
    simp[kL,k1,yf a r,h]
   ·simp[kL,yf a r]
theorem yja(a:n≠n'):∀(es:List (AV × AV)),xv kk n v (xv kk n' v' es)=xv kk n' v' (xv kk n v es)
 | []=>rfl
 | e::r=>by
   have k1:kY (.v (.int kk n),v)=n:=rfl
   have k2:kY (.v (.int kk n'),v')=n':=rfl
   have b:=yja a r
   by_cases d:kY e=n
   ·simp[xv,d,a,k1,b]
   ·by_cases c:kY e=n'
    ·simp[xv,c,show n'≠n from λe=>a e.symm,k2,b]
    ·simp[xv,d,c,b]
theorem jBa(a:n≠n'):∀(es:List (AV × AV)),xv kk n v (j5 kk n' v' es)=j5 kk n' v' (xv kk n v es)
 | []=>by
   have k2:kY (.v (.int kk n'),v')=n':=rfl
   simp[xv,j5,k2,show n'≠n from λe=>a e.symm]
 | e::r=>by
   have k1:kY (.v (.int kk n),v)=n:=rfl
   have k2:kY (.v (.int kk n'),v')=n':=rfl
   have d:=jBa a r
   by_cases c:kY e=n
   ·by_cases b:n'<n
    ·simp[xv,j5,c,k1,k2,b,show n'≠n from λe=>a e.symm]
    ·simp[xv,j5,c,k1,b,d]
   ·by_cases b:n'<kY e
    ·simp[xv,j5,c,k2,b,show n'≠n from λe=>a e.symm]
    ·simp[xv,j5,c,b,d]
theorem vJa:∀ {es:List (AV × AV)},vv kk (j5 kk n v es)=vv kk es:=by
 intro es
 rw[Bool.eq_iff_iff,xk,xk]
 constructor
 ·exact λh q a=>h q ((ZV es).mem_iff.2 (by simp[a]))
 ·intro h q a
  rcases zE.1 ((ZV es).mem_iff.1 a) with rfl|a
  ·rfl
  ·exact h q a
theorem vKa{es:List (AV × AV)}(h:vv kk es=true):vv kk (xv kk n v es)=true:=by
 rw[xk] at h⊢
 intro q b
 rw[yb,zw] at b
 obtain⟨d,e,a⟩:=b
 by_cases c:kY d=n
 ·rw[if_pos c] at a;subst a;rfl
 ·rw[if_neg c] at a;subst a;exact h _ e
theorem Zva{es g j:List (AV × AV)}(f:n≠n')(i:Jh kk n v es=some g)(h:Jh kk n' v' g=some j):∃b,Jh kk n' v' es=some b/\Jh kk n v b=some j:=by
 unfold Jh at i
 split at i
 case isFalse=>cases i
 rename_i m
 injection i with i
 have k:vv kk g=true:=by
  unfold Jh at h
  split at h
  ·assumption
  ·cases h
 have d:n'≠n:=λe=>f e.symm
 refine⟨_,by unfold Jh;rw[if_pos m],?_⟩
 unfold Jh at h⊢
 rw[if_pos k] at h
 have l:vv kk (if kL n' es=true then xv kk n' v' es else j5 kk n' v' es)=true:=by
  split
  ·exact vKa m
  ·rw[vJa];exact m
 rw[if_pos l, <-h, <-i]
 congr 1
 by_cases a:kL n es=true<;>by_cases c:kL n' es=true
 ·simp only[a,c,if_true,yf f,yf d,yja f]
 ·simp only[a,c,if_true,if_false,Bool.false_eq_true,yf f,Zw d,jBa f]
 ·simp only[a,c,if_true,if_false,Bool.false_eq_true,Zw f,yf d,jBa d]
 ·simp only[a,c,if_false,Bool.false_eq_true,Zw f,Zw d,Wc f]
end
theorem Yt{t:TypeId}{a:Tmp}{kk:IntKind}{n:Int}{v:Operand}{u:AV}{h':List Ob}(b:qc P T h (.insert t (.tmp a) (.const (.int kk n)) v)=some (u,h')):
  ∃ id es es',T a= .mp id/\h[id]? =some (.mapo es)/\Jh kk n (ev T v) es=some es'/\u= .v undef/\h'=h.set id (.mapo es')/\
    ∀e i g f n2,e[id]? =some (.mapo i)->Jh kk n2 (ev T f) i=some g->qc P T e (.insert t (.tmp a) (.const (.int kk n2)) f)=some (.v undef,e.set id (.mapo g)):=by
 simp only[qc,show ev T (.tmp a)=T a from rfl,show ev T (.const (.int kk n))= .v (.int kk n) from rfl] at b
 split at b
 ·rename_i r q id kk' n' p k c
  injection c with c
  injection c with hk1 hk2
  subst hk1 hk2
  split at b
  ·rename_i d es j m
   split at b
   ·rename_i heq
    subst heq
    cases hi:Jh d n (ev T v) es with
    | none=>rw[hi] at b;cases b
    | some es'=>
      rw[hi] at b
      injection b with b;injection b with hx1 hx2;subst hx1 hx2
      refine⟨id,es,es',k,m,hi,rfl,rfl,λe i g f n2 o l=>?_⟩
      simp only[qc,show ev T (.tmp a)=T a from rfl,show ev T (.const (.int d n2))= .v (.int d n2) from rfl,p,k,j,o,if_true,l]
      rfl
   ·cases b
  ·cases b
 ·cases b
theorem Jua(c:jAa x y=true)(ha:xCa ops x y=true)(i:p.2.2=[])(G:q.2.2=[])(k:kO P ops b p x (kO P ops b q y K) T h):kO P ops b (q.1,q.2.1,[]) y (kO P ops b p x K) T h:=by
 obtain⟨g,J⟩:=Yr ha
 obtain⟨C,U,xt,Y,xa,N⟩:=x
 obtain⟨j,Z,yt,yp,ya,R⟩:=y
 unfold jAa at c
 simp only at c
 split at c
 case h_2=>cases c
 rename_i t m k1 n v t' m' k2 n' v'
 simp only[zl,beq_iff_eq,bne_iff_ne,ne_eq] at c
 obtain⟨⟨⟨⟨⟨s,S⟩,hk⟩,hn⟩,l⟩,A⟩:=c
 subst S hk
 split at s
 case h_2=>cases s
 rename_i a a'
 have s:a=a':=by simpa using s
 subst s
 have l:N=none:=by cases N<;>simp_all
 have A:R=none:=by cases R<;>simp_all
 subst l A
 have c3:∀z w,cls (.insert t (.tmp a) z w)≠3:=λz w=>by simp[cls]
 have e:∀(q:Ent) (o:Oper) (K:Env->List Ob->Prop) (T:Env) (h:List Ob) (z w:Operand),q.2.2=[]->o.op= .insert t (.tmp a) z w->o.guard=none->(kO P ops b q o K T h↔∃u h',qc P T h o.op=some (u,h')/\K (qW T o.dst u) h'):=λq o K T h z w hq Q hg=>by
  rw[wJ (by rw[Q];exact c3 z w),hq]
  simp only[ju,true_and,vD,kN,hg,Joa,wV]
  cases he:qc P T h o.op with
  | none=>simp[Q]
  | some r=>obtain⟨u,h'⟩:=r;simp only[Option.some.injEq,Prod.mk.injEq];exact⟨λk=>⟨u,h',⟨rfl,rfl⟩,k⟩,λ⟨_,_,⟨F,B⟩,k⟩=>by subst F B;exact k⟩
 rw[e p _ _ T h _ _ i rfl rfl] at k
 obtain⟨u,W,F,k⟩:=k
 rw[e q _ _ _ W _ _ G rfl rfl] at k
 obtain⟨u',h2,B,k⟩:=k
 have hy:∀u h,qc P (qW T C u) h (.insert t (.tmp a) (.const (.int k1 n')) v')=qc P T h (.insert t (.tmp a) (.const (.int k1 n')) v'):=λu h=>by
  cases D:C with
  | none=>rfl
  | some d=>
    have:=(g d D).1
    unfold vj at this
    rw[zY] at this
    exact ye _ this.1
 have hx:∀u h,qc P (qW T j u) h (.insert t (.tmp a) (.const (.int k1 n)) v)=qc P T h (.insert t (.tmp a) (.const (.int k1 n)) v):=λu h=>by
  cases D:j with
  | none=>rfl
  | some d=>
    have:=(J d D).1
    unfold vj at this
    rw[zY] at this
    exact ye _ this.1
 simp only at F B
 rw[hy] at B
 obtain⟨id,es,φ,m1,H,m3,m4,V,O⟩:=Yt F
 obtain⟨ρ,es',L,E,f,X,o4,o5,o6⟩:=Yt B
 rw[m1] at E
 injection E with E
 subst E m4 o4 V
 rw[zo (vH H)] at f
 injection f with f
 injection f with f
 subst f
 obtain⟨M,i1,i2⟩:=Zva hn m3 X
 rw[e (q.1,q.2.1,[]) _ _ T h _ _ rfl rfl rfl]
 refine⟨.v undef,_,O h es M v' n' H i1,?_⟩
 rw[e p _ _ _ _ _ _ i rfl rfl]
 simp only
 rw[hx]
 refine⟨.v undef,_,O _ M L v n (by rw[zo (vH H)]) i2,?_⟩
 rw[zU]
 subst o5
 rw[zU] at k
 have I:qW (qW T C (.v undef)) j (.v undef)=qW (qW T j (.v undef)) C (.v undef):=WQ (x:=⟨C,.insert t (.tmp a) (.const (.int k1 n)) v,xt,Y,xa,none⟩) (y:=⟨j,.insert t (.tmp a) (.const (.int k1 n')) v',yt,yp,ya,none⟩) λd D=>(g d D).2
 simp only at k
 rw[I] at k
 exact k
theorem jCa{op:Op}{mk:Nat->AV}{ob:Ob}(b:jA P T op=some (ob,mk))(a:xDa op=true):∀es,ob≠ .mapo es:=by
 intro es e
 subst e
 cases op<;>simp only[xDa] at a<;>first
  | cases a;done
  | skip
 all_goals
  simp only[jA] at b
  repeat' split at b
 all_goals first
  | cases b;done
  | (simp only[Option.map_eq_some_iff,Prod.mk.injEq] at b;obtain⟨_,_,h,_⟩:=b;cases h;done)
theorem vLa{o:Oper}{ob:Ob}{mk:Nat->AV}(a:Zv P ops T o=some (some (ob,mk)))(c:xDa o.op=true):∀es,ob≠ .mapo es:=by
 have key:(jA P T o.op).map some=some (some (ob,mk))->∀es,ob≠ .mapo es:=λh=>by
  cases b:jA P T o.op with
  | none=>rw[b] at h;cases h
  | some q=>rw[b] at h;injection h with h;injection h with h;subst h;exact jCa b c
 unfold Zv at a
 split at a
 ·exact key a
 ·split at a
  ·split at a
   ·split at a
    ·exact key a
    ·injection a with a;cases a
   ·injection a with a;cases a
   ·cases a
  ·cases a
theorem Zwa{id:Nat}{ob:Ob}{t:TypeId}{m k v:Operand}{u:AV}{j:List Ob}(i:∀es,ob≠ .mapo es)(a:qc P T (h.set id ob) (.insert t m k v)=some (u,j))(hi:h[id]? =some .res):
  ∃h',qc P T h (.insert t m k v)=some (u,h')/\j=h'.set id ob/\h'[id]? =some .res:=by
 simp only[qc] at a⊢
 split at a
 ·rename_i p o g kk n r q l
  split at a
  ·rename_i kk' es f d
   have b:id≠g:=λe=>by
    subst e
    rw[zo (zd.1 hi).1] at d
    injection d with d
    exact i es d
   rw[zc b] at d
   split at a
   ·rename_i heq
    simp only[f,d,if_pos heq]
    cases c:Jh kk' n (ev T v) es with
    | none=>subst heq;rw[c] at a;cases a
    | some es'=>
      subst heq
      rw[c] at a
      injection a with a;injection a with hx1 hx2;subst hx1 hx2
      refine⟨_,by rw[c];rfl,by rw[List.set_comm _ _ b],by rw[zc (λe=>b e.symm)];exact hi⟩
   ·cases a
  ·cases a
 ·cases a
theorem vMa(n:Jra x y=true)(V:xCa ops x y=true)(L:p.2.2=[])(i:q.2.2=[])(k:kO P ops b p x (kO P ops b q y K) T h):kO P ops b (q.1,q.2.1,[]) y (kO P ops b p x K) T h:=by
 obtain⟨l,I⟩:=Yr V
 simp only[Jra,zl] at n
 obtain⟨⟨A,D⟩,E⟩:=n
 have g:cls x.op=3:=by
  generalize x.op=op at A
  cases op<;>simp only[xDa] at A<;>first
   | rfl
   | cases A
 obtain⟨e,B,C,H,G,J⟩:=y
 simp only at D E
 have E:J=none:=by cases J<;>simp_all
 subst E
 cases B<;>simp only[WYa] at D<;>first
  | cases D;done
  | skip
 rename_i t m kk v
 have F:cls (.insert t m kk v)≠3:=by simp[cls]
 have a:∀(q:Ent) (K:Env->List Ob->Prop) (T:Env) (h:List Ob),q.2.2=[]->(kO P ops b q ⟨e,.insert t m kk v,C,H,G,none⟩ K T h↔∃u h',qc P T h (.insert t m kk v)=some (u,h')/\K (qW T e u) h'):=λq K T h M=>by
  rw[wJ F,M]
  simp only[ju,true_and,vD,kN,Joa,wV]
  cases W:qc P T h (.insert t m kk v) with
  | none=>simp
  | some r=>obtain⟨u,h'⟩:=r;simp only[Option.some.injEq,Prod.mk.injEq];exact⟨λk=>⟨u,h',⟨rfl,rfl⟩,k⟩,λ⟨_,_,⟨f,Q⟩,k⟩=>by subst f Q;exact k⟩
 have c:∀w h,qc P (qW T x.dst w) h (.insert t m kk v)=qc P T h (.insert t m kk v):=λw h=>by
  cases s:x.dst with
  | none=>rfl
  | some d=>
    have:=(l d s).1
    unfold vj at this
    rw[zY] at this
    exact ye _ this.1
 have o:∀u w,qW (qW T x.dst u) e w=qW (qW T e w) x.dst u:=λu w=>WQ (y:=⟨e,.insert t m kk v,C,H,G,none⟩) λd s=>(l d s).2
 have j:∀w,Zv P ops (qW T e w) x=Zv P ops T x:=λw=>KB (z:=⟨e,.insert t m kk v,C,H,G,none⟩) λd s=>(I d s).1
 rw[vS g,kr] at k
 rw[a _ _ T h rfl]
 cases hex:Zv P ops T x with
 | none=>rw[hex] at k;exact k.elim
 | some ex=>
   rw[hex] at k
   cases ex with
   | none=>
     simp only at k
     rw[a _ _ _ _ i] at k
     obtain⟨u,h',f,k⟩:=k
     rw[c] at f
     refine⟨u,h',f,?_⟩
     rw[vS g,kr,j,hex]
     simp only
     rw[<-o]
     exact k
   | some R=>
     obtain⟨ob,mk⟩:=R
     simp only at k
     obtain⟨k1,k2⟩:=k
     rw[a _ _ _ _ i] at k2
     obtain⟨u,h',f,k2⟩:=k2
     rw[c] at f
     obtain⟨N,U,O,S⟩:=Zwa (vLa hex A) f k1
     refine⟨u,N,U,?_⟩
     rw[vS g,kr,j,hex]
     simp only
     rw[<-o]
     subst O
     exact⟨S,k2⟩
theorem qvb{l2:List Nat}(H:ops[p.1]? =some x)(hs:QF ops p q x y=true)(hp:cls x.op≠2->p.2.2=[])(hq:cls y.op≠2->q.2.2=[])(Y:ops[q.1]? =some y)
  (s:∀l∈l2,l∈q.2.2/\vR ops l p.1=true) (V:∀l∈p.2.2,vR ops l q.1=true) (ξ:∀l,l∈q.2.2->l∉l2->l=p.1)
  (hr:cls y.op=3->h[b+q.2.1]? =some .res) (θ:cls x.op=3->cls y.op=3->p.2.1≠q.2.1) (M:p.1∈q.2.2->∀d,x.dst=some d->vj ops x d=false)
  (k:kO P ops b p x (kO P ops b q y K) T h):kO P ops b (q.1,q.2.1,l2) y (kO P ops b p x K) T h:=by
 simp only[QF,zl,Bool.or_eq_true,beq_iff_eq,bne_iff_ne,ne_eq,decide_eq_true_eq] at hs
 obtain⟨ha,hs⟩:=hs
 obtain⟨o,C⟩:=Yr ha
 have O:cls y.op=3->kO P ops b (q.1,q.2.1,l2) y (kO P ops b p x K) T h:=λhy=>by
  have hi:=hr hy
  rw[vS hy,kr]
  have j:∀v h',kO P ops b q y K (qW T x.dst v) h'↔match Zv P ops T y with
    | some (some (ob,mk))=>h'[b+q.2.1]? =some .res/\K (qW (qW T x.dst v) y.dst (mk (b+q.2.1))) (h'.set (b+q.2.1) ob)
    | some none=>K (qW (qW T x.dst v) y.dst (.v undef)) h'
    | none=>False:=λv h'=>by
   rw[vS hy,kr,KB (λd c=>(o d c).1)]
  have J:∀u v,qW (qW T x.dst u) y.dst v=qW (qW T y.dst v) x.dst u:=λu v=>WQ λd c=>(o d c).2
  have E:∀d,y.dst=some d->vj ops x d=false:=λd c=>(C d c).1
  by_cases I:cls x.op=3
  ·rw[vS I,kr] at k
   have G:Zv P ops (qW T y.dst (.v undef)) x=Zv P ops T x/\∀v,Zv P ops (qW T y.dst v) x=Zv P ops T x:=⟨KB E,λv=>KB E⟩
   cases hex:Zv P ops T x with
   | none=>rw[hex] at k;exact k.elim
   | some ex=>
     rw[hex] at k
     have L:b+p.2.1≠b+q.2.1:=λe=>θ I hy (by omega)
     cases ex with
     | none=>
       simp only at k
       rw[j] at k
       cases i:Zv P ops T y with
       | none=>rw[i] at k;exact k.elim
       | some U=>cases U with
         | none=>simp only[i] at k ⊢;rw[vS I,kr,G.2,hex];simp only;rw[<-J];exact k
         | some W=>obtain⟨ob,mk⟩:=W;simp only[i] at k ⊢;refine⟨hi,?_⟩;rw[vS I,kr,G.2,hex];simp only;rw[<-J];exact k.2
     | some ox=>
       obtain⟨ox,mx⟩:=ox
       simp only at k
       obtain⟨k1,k2⟩:=k
       rw[j] at k2
       cases i:Zv P ops T y with
       | none=>rw[i] at k2;exact k2.elim
       | some U=>cases U with
         | none=>simp only[i] at k2 ⊢;rw[vS I,kr,G.2,hex];simp only;rw[<-J];exact⟨k1,k2⟩
         | some W=>
           obtain⟨ob,mk⟩:=W
           simp only[i] at k2⊢
           refine⟨hi,?_⟩
           rw[vS I,kr,G.2,hex]
           simp only
           rw[<-J,zc (λe=>L e.symm),List.set_comm _ _ (λe=>L e.symm)]
           exact⟨k1,k2.2⟩
  ·rw[wJ I] at k
   obtain⟨v0,h0,k0,_⟩:=Ys k
   have k0:=(j v0 h0).1 k0.2
   cases i:Zv P ops T y with
   | none=>rw[i] at k0;exact k0.elim
   | some U=>cases U with
     | none=>
       simp only
       rw[wJ I]
       have:vD P ops x (λg a=>ju P ops g a p.2.2/\K (qW g y.dst (.v undef)) a) T h:=kp (Qe k) λg a ⟨⟨f,m⟩,⟨v,e⟩,_⟩=>by
        subst e
        refine⟨f,?_⟩
        have:=(j v a).1 m
        rw[i] at this
        exact this
       have η:vD P ops x (λg a=>ju P ops g a p.2.2/\K g a) (qW T y.dst (.v undef)) h:=by
        cases c:y.dst with
        | none=>
          rw[c] at this
          exact this
        | some d=>
          rw[c] at this
          show vD P ops x _ (upd T d (.v undef)) h
          rw[Xc (C d c).1 (C d c).2]
          refine kp this λg a ⟨f,m⟩=>⟨?_,m⟩
          rw[jQ] at f⊢
          intro l A
          have:=(Xd (P:=P) (T:=g) (h:=a) (v:= .v undef) (p:=q) Y (V l A)).2 (f l A)
          rw[c] at this
          exact this
       exact η
     | some W=>
       obtain⟨ob,mk⟩:=W
       simp only
       refine⟨hi,?_⟩
       have Q:=Zua i
       rw[wJ I]
       have key:vD P ops x (λg a=>ju P ops g a p.2.2/\K (qW g y.dst (mk (b+q.2.1))) a) T (h.set (b+q.2.1) ob):=by
        refine jza k (λk=>Jta k hi Q λv h' γ ⟨f,m⟩=>?_) λ⟨f,m⟩=>?_
        ·have m:=(j v h').1 m
         rw[i] at m
         refine⟨?_,m.2⟩
         rw[jQ] at f⊢
         exact λl A=>xHa (f l A) (γ _ hi) Q
        ·have m:=(j _ h).1 m
         rw[i] at m
         refine⟨?_,m.2⟩
         rw[jQ] at f⊢
         exact λl A=>xHa (f l A) hi Q
       cases c:y.dst with
       | none=>rw[c] at key;exact key
       | some d=>
         rw[c] at key
         show vD P ops x _ (upd T d (mk (b+q.2.1))) (h.set (b+q.2.1) ob)
         rw[Xc (C d c).1 (C d c).2]
         refine kp key λg a ⟨f,m⟩=>⟨?_,m⟩
         rw[jQ] at f⊢
         intro l A
         have:=(Xd (P:=P) (T:=g) (h:=a) (v:=mk (b+q.2.1)) (p:=q) Y (V l A)).2 (f l A)
         rw[c] at this
         exact this
 rcases hs with(((((⟨ι,N⟩|⟨δ,S⟩)|N)|⟨⟨δ,ρ⟩,w⟩)|⟨⟨F,B⟩,n⟩)|⟨⟨F,B⟩,n⟩)
 ·
  have t:=hp (by omega)
  rw[kU (by omega) t] at k
  obtain⟨D,Z,a⟩:=k
  rw[wJ N] at a⊢
  have R:vD P ops y (λg a=>ju P ops g a l2/\K (qW g x.dst D) a) T h:=by
   cases c:x.dst with
   | none=>rw[c] at a;exact kp a λg a ⟨f,m⟩=>⟨by rw[jQ] at f ⊢;exact λl A=>f l (s l A).1,m⟩
   | some d=>
     rw[c] at a
     have a:vD P ops y _ (upd T d D) h:=a
     rw[Xc (o d c).1 (o d c).2] at a
     refine kp a λg a ⟨f,m⟩=>⟨?_,m⟩
     rw[jQ] at f⊢
     intro l A
     have:=f l (s l A).1
     refine(Xd (P:=P) (T:=g) (h:=a) (v:=D) H (s l A).2).1 ?_
     rw[c];exact this
  refine kp (Qe R) λg a ⟨⟨f,m⟩,⟨v,e⟩,_⟩=>⟨f,?_⟩
  subst e
  refine(kU (by omega) t).2 ⟨D,?_,m⟩
  rw[KA λd c=>(C d c).1,Zra ι a h]
  exact Z
 ·have t:=hp (by omega)
  have X:=hq (by omega)
  have z:l2=[]:=by
   cases l2 with
   | nil=>rfl
   | cons l r=>have:=(s l (by simp)).1;rw[X] at this;cases this
  subst z
  rw[kU (by omega) t] at k
  obtain⟨D,Z,a⟩:=k
  rw[kU S X] at a
  obtain⟨vy,R,h4⟩:=a
  rw[KA λd c=>(o d c).1] at R
  refine(kU (q:=(q.1,q.2.1,[])) S rfl).2 ⟨vy,R,(kU (by omega) t).2 ⟨D,?_,?_⟩⟩
  ·rw[KA λd c=>(C d c).1];exact Z
  ·rw[<-WQ λd c=>(o d c).2];exact h4
 ·exact O N
 ·
  have t:=hp (by omega)
  rw[kU (by omega) t] at k
  obtain⟨D,Z,a⟩:=k
  rw[wJ (by omega)] at a⊢
  have w:p.1∈q.2.2:=by simpa using w
  have R:vD P ops y (λg a=>(ju P ops g a l2/\Z6 P ops g a x=some D)/\K (qW g x.dst D) a) T h:=by
   have ε:∃d,x.dst=some d:=by
    obtain⟨v0,h0,⟨f,_⟩,_⟩:=Ys a
    rw[jQ] at f
    have:=f p.1 w
    unfold ww at this
    rw[H] at this
    simp only at this
    cases c:x.dst with
    | none=>rw[c] at this;exact this.elim
    | some d=>exact⟨d,rfl⟩
   obtain⟨d,c⟩:=ε
   rw[c] at a⊢
   have a:vD P ops y _ (upd T d D) h:=a
   rw[Xc (o d c).1 (o d c).2] at a
   refine kp (Qe a) λg a ⟨⟨f,m⟩,⟨v,e⟩,_⟩=>⟨⟨?_,?_⟩,m⟩
   ·rw[jQ] at f⊢
    intro l A
    have:=f l (s l A).1
    refine(Xd (P:=P) (T:=g) (h:=a) (v:=D) H (s l A).2).1 ?_
    rw[c];exact this
   ·rw[jQ] at f
    have:=f p.1 w
    unfold ww at this
    rw[H] at this
    simp only[c] at this
    rw[xEa (M w d c)] at this
    rw[this];simp[upd]
  refine kp (Qe R) λg a ⟨⟨⟨f,q0⟩,m⟩,⟨v,e⟩,_⟩=>⟨f,?_⟩
  exact(kU (by omega) t).2 ⟨D,q0,m⟩
 ·
  have B:p.2.2=[]:=by simpa using B
  have n:q.2.2=[]:=by simpa using n
  have z:l2=[]:=by
   cases l2 with
   | nil=>rfl
   | cons l r=>have:=(s l (by simp)).1;rw[n] at this;cases this
  subst z
  exact Jua F ha B n k
 ·have B:p.2.2=[]:=by simpa using B
  have n:q.2.2=[]:=by simpa using n
  have z:l2=[]:=by
   cases l2 with
   | nil=>rfl
   | cons l r=>have:=(s l (by simp)).1;rw[n] at this;cases this
  subst z
  exact vMa F ha B n k
end
