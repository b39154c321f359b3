import Derived.Test.YtigdlmpjijhpaaaGreatKA
import Derived.Test.YtigdlmpjijhpaaaGreatK07
set_option linter.all false
namespace Go.Proofs.YtigdlmpjijhpaaaGreat.Ax
open Go Go.RowKit
abbrev Ent:=Nat × Nat × List Nat
def y7(P:Program)(ops:Array Oper)(T:Env)(h:List Ob)(l:Nat):Prop:=match ops[l]? with
 | some o=>match o.dst with
   | some d=>Qt P ops T h o=some (T d)
   | none=>False
 | none=>False
def jI(P:Program)(ops:Array Oper)(T:Env)(h:List Ob):List Nat->Prop
 | []=>True
 | l::r=>y7 P ops T h l/\jI P ops T h r
def kU(P:Program)(ops:Array Oper)(b:Nat)(q:Ent)(o:Oper)(K:Env->List Ob->Prop)(T:Env)(h:List Ob):Prop:=
 if cls o.op=3 then YB P ops (b+q.2.1) o K T h else vO P ops o (λT h=>jI P ops T h q.2.2/\K T h) T h
def wpE(P:Program)(ops:Array Oper)(b:Nat)(K:Env->List Ob->Prop):List Ent->Env->List Ob->Prop
 | [],T,h=>K T h
 | q::r,T,h=>match ops[q.1]? with
   | some o=>kU P ops b q o (wpE P ops b K r) T h
   | none=>False
def vT(o:Oper):List Nat:=(o.after.toList.filter (Region.binds .any)).map (·.on)
def Qu(ops:Array Oper):Nat->Nat->Nat->Bool
 | 0,j,i=>match ops[i]? with
   | some o=>(vT o).contains j
   | none=>false
 | f+1,j,i=>match ops[i]? with
   | some o=>(vT o).contains j || (vT o).any λk=>decide (j<k) && Qu ops f j k
   | none=>false
def jDa(x y:Oper):Bool:=match x.op,y.op with
 | .insert t m (.const (.int k n)) _,.insert c d (.const (.int k' n')) _=>(match m,d with
   | .tmp a,.tmp b=>a==b
   | _,_=>false) && t==c && k==k' && n != n' && x.guard.isNone && y.guard.isNone
 | _,_=>false
def xMa:Op->Bool
 | .alloc .. | .box .. | .buildSlice .. | .makeSlice .. =>true
 | _=>false
def Yoa:Op->Bool
 | .insert .. =>true
 | _=>false
def JNa(x y:Oper):Bool:=xMa x.op && Yoa y.op && y.guard.isNone
def wc(ops:Array Oper)(l p:Nat):Bool:=match ops[l]?,ops[p]? with
 | some a,some b=>match b.dst with
   | some d=> !vv ops a d && a.dst != some d
   | none=>true
 | _,_=>false
def QZ(ops:Array Oper)(p q:Ent)(x y:Oper):Bool:=xLa ops x y &&
 ((cls x.op==0 && cls y.op != 3) || (cls x.op==1 && decide (cls y.op<=1)) || cls y.op==3 || (cls x.op==1 && cls y.op==2 && q.2.2.contains p.1) || (jDa x y && p.2.2.isEmpty && q.2.2.isEmpty) || (JNa x y && p.2.2.isEmpty && q.2.2.isEmpty))
def yM(ops:Array Oper)(p q:Ent):Bool:=match ops[p.1]?,ops[q.1]? with
 | some x,some y=>(Qu ops 8 p.1 q.1 || QZ ops p q x y) && !Qu ops 8 q.1 p.1 && !p.2.2.contains q.1 && (cls x.op != 3 || cls y.op != 3 || p.2.1 != q.2.1)
 | _,_=>false
def KS(ops:Array Oper):List Ent->Bool
 | []=>true
 | x::r=>r.all (yM ops x) && KS ops r
def Qi(ops:Array Oper):Nat->List Oper->Bool
 | _,[]=>true
 | i,o::r=>(vT o).all (λj=>decide (j<i)) && Qi ops (i+1) r
def Z7(ops:Array Oper)(l:Nat):Bool:=(match ops[l]? with
 | some o=>decide (cls o.op<=1) && (match o.dst with
   | some d=> !vv ops o d
   | none=>false)
 | none=>false) && (List.range ops.size).all λp=>p==l || Qu ops 8 p l || wc ops l p
def yma(ops:Array Oper)(k:Nat)(q:Ent):Bool:=match ops[q.1]? with
 | some o=>(cls o.op==2 || q.2.2.isEmpty) && (cls o.op != 3 || decide (q.2.1<k)) && !q.2.2.contains q.1 && q.2.2.all (Z7 ops)
 | none=>false
def YC(ops:Array Oper)(k:Nat)(a:List Ent):Bool:=
 KS ops a && Qi ops 0 ops.toList && a.all (yma ops k) && (List.range ops.size).all (λi=>(a.map (·.1)).contains i) && decide (a.map (·.1)).Nodup && decide (a.length<=ops.size)
section
variable {P:Program} {N:Nat} {B:Bs} {ops:Array Oper} {T:Env} {h:List Ob} {K K':Env->List Ob->Prop} {b:Nat} {p q:Ent} {x y:Oper}
theorem xD{l:List Nat}:jI P ops T h l↔∀i∈l,y7 P ops T h i:=by
 induction l with
 | nil=>simp[jI]
 | cons i l a=>simp[jI,a]
theorem qwa{o:Oper}(a:cls o.op<=1):yk P T h o K↔∃x,(qf P T h o.op).map (·.1)=some x/\K (jb T o.dst x) h:=by
 unfold yk
 cases d:qf P T h o.op with
 | some q=>
   obtain⟨x,h'⟩:=q
   have:=vJa a d
   subst this
   simp
 | none=>
   simp only[Option.map_none]
   constructor
   ·intro k
    generalize o.op=op at k a d
    cases op<;>first
     | exact k.elim
     | skip
    rename_i c
    obtain⟨callee,args,f⟩:=c
    cases callee with
    | builtin b=>exact k.elim
    | value x=>simp[cls] at a
    | invoke r m=>exact k.elim
   ·rintro ⟨x,e,_⟩;cases e
theorem vKa{o:Oper}(a:cls o.op<=1):vO P ops o K T h↔∃x,Qt P ops T h o=some x/\K (jb T o.dst x) h:=by
 unfold vO kT Qt JKa
 cases o.guard with
 | none=>exact qwa a
 | some q=>
   obtain⟨j,want⟩:=q
   simp only[]
   cases (ops[j]?).bind (·.dst) with
   | none=>simp
   | some d=>
     simp only[]
     split
     ·rename_i b _
      by_cases c:b=want
      ·subst c
       simp only[true_implies,ne_eq,not_true_eq_false,false_implies,and_true,if_true]
       exact qwa a
      ·simp[c]
     ·simp
     ·simp
theorem ZCa{op:Op}(a:cls op=0)(h h':List Ob):(qf P T h op).map (·.1)=(qf P T h' op).map (·.1):=by
 cases op<;>simp only[cls] at a<;>try (omega;done)
 case binOp op t y z u=>
  have e:¬ Xo z=true:=λh=>by rw[if_pos h] at a;omega
  simp only[qf,if_neg e]
  simp[Option.map_map,Function.comp_def]
 case build t ps=>
  simp only[qf]
  repeat' split
  all_goals first|rfl|skip
  all_goals
   cases (zP P t).zero with
   | none=>rfl
   | some z=>simp only[Option.bind_some];simp[Option.map_map,Function.comp_def]
 case fieldAddr t y i=>
  simp only[qf]
  split
  ·rename_i d _
   cases d[i]? with
   | none=>rfl
   | some f=>
     simp only[Option.bind_some]
     split
     ·split<;>rfl
     ·rfl
  ·rfl
 case field t y i=>
  simp only[qf]
  split
  ·rename_i d _ _ _
   cases d[i]? with
   | none=>rfl
   | some f=>
     simp only[Option.bind_some]
     split
     ·simp[Option.map_map,Function.comp_def]
     ·rfl
  ·rfl
 case call c=>
  obtain⟨callee,args,g⟩:=c
  cases callee with
  | builtin b=>
    cases b<;>simp at a
    ·simp only[qf,Qr]
     split<;>simp_all [Function.comp_def]
    ·simp only[qf,Qr]
     split<;>simp_all [Function.comp_def]
  | value x=>simp at a
  | invoke r m=>simp at a
 all_goals
  simp only[qf]
  repeat' split
 all_goals first|rfl|simp[Option.map_map,Function.comp_def]
theorem ZDa{o:Oper}(a:cls o.op=0)(h h':List Ob):Qt P ops T h o=Qt P ops T h' o:=by
 unfold Qt
 rw[ZCa a h h']
theorem xNa{o:Oper}{d:Nat}{x:AV}(a:vv ops o d=false):Qt P ops (upd T d x) h o=Qt P ops T h o:=by
 unfold vv at a
 rw[zY] at a
 unfold Qt
 cases f:o.guard with
 | none=>simp only[yu o.op a.1]
 | some q=>
   obtain⟨j,want⟩:=q
   rw[f] at a
   simp only[]
   cases c:(ops[j]?).bind (·.dst) with
   | none=>rfl
   | some e=>
     have b:e≠d:=λh=>by
      have:=a.2
      simp[c,h] at this
     have g:upd T d x e=T e:=by simp[upd,b]
     simp only[g,yu o.op a.1]
theorem KT{o y:Oper}{v:AV}(b:∀d,y.dst=some d->vv ops o d=false):Qt P ops (jb T y.dst v) h o=Qt P ops T h o:=by
 cases a:y.dst with
 | none=>rfl
 | some d=>exact xNa (b d a)
theorem WZ{x y:Oper}{u v:AV}(a:∀d,x.dst=some d->y.dst≠some d):jb (jb T x.dst u) y.dst v=jb (jb T y.dst v) x.dst u:=by
 cases b:x.dst with
 | none=>rfl
 | some d=>
   have:=a d b
   exact KR (T:=T) (x:=u) (y:=v) this
theorem xOa{o:Oper}(k:yk P T h o K):yk P T h o λi b=>K i b/\(∃v,i=jb T o.dst v)/\ResK h b:=by
 unfold yk at*
 split
 ·rename_i x h' a
  rw[a] at k
  exact⟨k,⟨x,rfl⟩,(Z4 (φ:=λ_=> .res) (λ_ _=>rfl) _ a).2⟩
 ·rename_i a
  rw[a] at k
  clear a
  generalize o.op=op at k⊢
  cases op<;>first
   | exact k.elim
   | skip
  rename_i c
  simp only at k⊢
  cases d:Zj T c with
  | none=>rw[d] at k;exact k.elim
  | some q=>
    rw[d] at k
    obtain⟨k1,⟨r,h',k2,k3⟩,k4⟩:=k
    refine⟨k1,⟨r,h',⟨k2,⟨r,rfl⟩,k3⟩,k3⟩,λφ l B w g vs s t j=>(k4 φ l B w g vs s t j).mono λe w' ⟨v,r,h',g',p,m,f,n⟩=>⟨v,r,h',g',p,⟨m,⟨r,rfl⟩,f⟩,f,n⟩⟩
theorem Qv{o:Oper}(k:vO P ops o K T h):vO P ops o (λb a=>K b a/\(∃v,b=jb T o.dst v)/\ResK h a) T h:=
 JQ k xOa λk=>⟨k,⟨_,rfl⟩,.refl⟩
theorem xPa{id:Nat}{ob:Ob}(hi:h[id]? =some .res):Upto (λi=>if i=id then ob else .res) h.length:=λi a=>by
 have:=(zd.1 hi).1
 exact if_neg (by omega)
theorem JR{φ:Nat->Ob}{id:Nat}{ob:Ob}(hi:h[id]? =some .res)(b:ob.isRes=false):fill (λi=>if i=id then ob else φ i) h=fill φ (h.set id ob):=by
 apply qX
 intro j
 rw[wS,wS]
 by_cases a:id=j
 ·subst a
  rw[hi,zo (zd.1 hi).1]
  simp only[Option.map_some,KH]
  rw[if_pos (show(Ob.res).isRes=true from rfl),if_pos trivial,if_neg (by rw[b];simp)]
 ·rw[zc a]
  cases h[j]? with
  | none=>rfl
  | some o=>simp[KH,show j≠id from λe=>a e.symm]
theorem Ws{id:Nat}{ob:Ob}(hi:h[id]? =some .res)(a:ob.isRes=false):fill (λi=>if i=id then ob else .res) h=h.set id ob:=by
 rw[JR (φ:=λ_=> .res) hi a,qma]
theorem qxa{id:Nat}{ob:Ob}{op:Op}{x:AV}{h':List Ob}(d:qf P T h op=some (x,h'))(hi:h[id]? =some .res)(c:ob.isRes=false):qf P T (h.set id ob) op=some (x,h'.set id ob)/\ResK h h':=by
 obtain⟨b,a⟩:=Z4 (xPa (ob:=ob) hi) op d
 rw[Ws hi c,Ws (a id hi) c] at b
 exact⟨b,a⟩
theorem Vla{o:Oper}{id:Nat}{ob:Ob}{v:AV}(a:Qt P ops T h o=some v)(hi:h[id]? =some .res)(i:ob.isRes=false):Qt P ops T (h.set id ob) o=some v:=by
 have key:∀v,(qf P T h o.op).map (·.1)=some v->(qf P T (h.set id ob) o.op).map (·.1)=some v:=λv b=>by
  cases e:qf P T h o.op with
  | none=>rw[e] at b;cases b
  | some q=>
    obtain⟨y,h'⟩:=q
    rw[e] at b
    rw[(qxa e hi i).1]
    exact b
 unfold Qt at*
 cases g:o.guard with
 | none=>simp only[g] at a ⊢;exact key v a
 | some q=>
   obtain⟨j,want⟩:=q
   simp only[g] at a⊢
   cases f:(ops[j]?).bind (·.dst) with
   | none=>simp only[f] at a;cases a
   | some d=>
     simp only[f] at a⊢
     split at a
     ·split at a
      ·rename_i c;rw[if_pos c];exact key v a
      ·rename_i c;rw[if_neg c];exact a
     ·exact a
     ·cases a
theorem Vma{id:Nat}{ob:Ob}{h':List Ob}(k:ResK h h'):ResK (h.set id ob) (h'.set id ob)∨(h.set id ob)[id]? =some .res:=by
 by_cases b:(h.set id ob)[id]? =some .res
 ·exact .inr b
 ·refine .inl λj a=>?_
  by_cases e:id=j
  ·subst e;exact absurd a b
  ·rw[zc e] at a ⊢;exact k j a
theorem ZEa{f:FuncId}{aZ:List AV}{R:AV->List Ob->Prop}{id:Nat}{ob:Ob}(c:ACalls P f aZ h R)(hi:h[id]? =some .res)(b:ob.isRes=false):ACalls P f aZ (h.set id ob) λr h''=>∃h',h''=h'.set id ob/\R r h'/\ResK h h':=by
 have l:=(zd.1 hi).1
 have j:(h.set id ob)[id]? ≠some .res:=λe=>by
  rw[zo l] at e;injection e with e;subst e;cases b
 have a:∀h',ResK h h'->ResK (h.set id ob) (h'.set id ob):=λh' k=>by
  rcases Vma (id:=id) (ob:=ob) k with k|k
  ·exact k
  ·exact absurd k j
 obtain⟨x,⟨r,h',A,s⟩,y⟩:=c
 refine⟨x,⟨r,h'.set id ob,⟨h',rfl,A,s⟩,a h' s⟩,λφ C B w g vs t z q=>?_⟩
 have m:Upto (λi=>if i=id then ob else φ i) h.length:=λi n=>by
  have:i≠id:=by omega
  simp only[if_neg this]
  exact C i (by simpa using n)
 rw[<-JR hi b] at t q
 refine(y _ m B w g vs t z q).mono λe w' ⟨v,r,h',g',u,D,d,p,o⟩=>?_
 rw[JR hi b,JR (d id hi) b] at p
 rw[JR (d id hi) b] at o
 exact⟨v,r,h'.set id ob,g',u,⟨h',rfl,D,d⟩,a h' d,p,o⟩
theorem Vna{o:Oper}{id:Nat}{ob:Ob}(k:yk P T h o K)(hi:h[id]? =some .res)(i:ob.isRes=false):yk P T (h.set id ob) o λg j=>∃h',j=h'.set id ob/\K g h'/\(∃v,g=jb T o.dst v)/\ResK h h':=by
 have k:=xOa k
 unfold yk at k⊢
 split at k
 ·rename_i x h' b
  rw[(qxa b hi i).1]
  exact⟨h',rfl,k⟩
 ·rename_i b
  split at k
  ·rename_i c m
   have d:qf P T (h.set id ob) o.op=none:=by
    rw[m] at b⊢
    split at k
    ·rename_i f aZ a
     obtain⟨callee,args,s⟩:=c
     unfold Zj at a
     split at a
     ·rename_i X e;simp only at e;subst e;rfl
     ·cases a
    ·exact k.elim
   rw[d]
   simp only
   split at k
   ·rename_i f aZ a
    exact(ZEa k hi i).mono λr h'' ⟨h',q,⟨l,n,p⟩,_⟩=>⟨h',q,l,n,p⟩
   ·exact k.elim
  ·exact k.elim
theorem YD(b:xLa ops x y=true):(∀d,x.dst=some d->vv ops y d=false/\y.dst≠some d)/\(∀d,y.dst=some d->vv ops x d=false/\x.dst≠some d):=by
 simp only[xLa,zq] at b
 have c:∀d,x.dst=some d->vv ops y d=false/\y.dst≠some d:=λd a=>by
  have:=b.1
  rw[a] at this
  simpa using this
 refine⟨c,λd a=>⟨?_,λe=>(c d e).2 a⟩⟩
 have:=b.2
 rw[a] at this
 simpa using this
theorem z9a{l:Nat}{a:Oper}(f:ops[l]? =some a)(e:ops[p.1]? =some x)(b:wc ops l p.1=true):(∀d,x.dst=some d->vv ops a d=false)/\(∀d,x.dst=some d->a.dst≠some d):=by
 unfold wc at b
 rw[f,e] at b
 simp only at b
 refine⟨λd c=>?_,λd c=>?_⟩<;>(rw[c] at b;simp at b)
 ·exact b.1
 ·exact b.2
theorem vLa{d:Nat}{v:AV}(b:x.dst≠some d):jb T x.dst v d=T d:=by
 cases a:x.dst with
 | none=>rfl
 | some e=>simp only[jb,upd];rw[if_neg];intro h;exact b (by rw[a,h])
theorem Xu{l:Nat}{v:AV}(j:ops[p.1]? =some x)(b:wc ops l p.1=true):y7 P ops (jb T x.dst v) h l↔y7 P ops T h l:=by
 unfold y7
 cases g:ops[l]? with
 | none=>simp
 | some a=>
   simp only
   obtain⟨i,c⟩:=z9a g j b
   cases f:a.dst with
   | none=>simp
   | some d=>
     simp only
     rw[KT i,vLa λe=>c d e f]
theorem xQa{l id:Nat}{ob:Ob}(k:y7 P ops T h l)(hi:h[id]? =some .res)(e:ob.isRes=false):y7 P ops T (h.set id ob) l:=by
 unfold y7 at*
 cases c:ops[l]? with
 | none=>rw[c] at k;exact k
 | some a=>
   rw[c] at k
   simp only at k⊢
   cases b:a.dst with
   | none=>rw[b] at k;exact k
   | some d=>rw[b] at k;exact Vla k hi e
theorem wW{o:Oper}(a:cls o.op≠3):kU P ops b q o K T h=vO P ops o (λT h=>jI P ops T h q.2.2/\K T h) T h:=if_neg a
theorem we{o:Oper}(a:cls o.op=3):kU P ops b q o K T h=YB P ops (b+q.2.1) o K T h:=if_pos a
theorem vg{o:Oper}(c:cls o.op<=1)(a:q.2.2=[]):kU P ops b q o K T h↔∃x,Qt P ops T h o=some x/\K (jb T o.dst x) h:=by
 rw[wW (by omega),a]
 simp only[jI,true_and]
 exact vKa c
theorem ZFa{id:Nat}{o:Oper}(k:JP P id o K T h):JP P id o (λc b=>K c b/\(∃v,c=jb T o.dst v)/\∀j,j≠id->h[j]? =some .res->b[j]? =some .res) T h:=by
 unfold JP at*
 split
 ·rename_i ob mk a
  rw[a] at k
  exact⟨k.1,k.2,⟨_,rfl⟩,λj d f=>by rw[zc (λe=>d e.symm)];exact f⟩
 ·rename_i a;rw[a] at k;exact k
theorem vMa{o:Oper}(k:kU P ops b q o K T h)(d:∀e h',(∀j,(cls o.op=3->j≠b+q.2.1)->h[j]? =some .res->h'[j]? =some .res)->K e h'->K' e h'):kU P ops b q o K' T h:=by
 by_cases c:cls o.op=3
 ·rw[we c] at k⊢
  refine JQ k (λk=>vHa (ZFa k) λi f ⟨k,_,a⟩=>d _ _ (λj g=>a j (g c)) k) (d _ _ λj _ a=>a)
 ·rw[wW c] at k⊢
  exact kx (Qv k) λi f ⟨⟨k1,k2⟩,_,a⟩=>⟨k1,d _ _ (λj _=>a j) k2⟩
def ZA(P:Program)(ops:Array Oper)(T:Env)(o:Oper):Option (Option (Ob × (Nat->AV))):=match o.guard with
 | none=>(jG P T o.op).map some
 | some (j,want)=>match (ops[j]?).bind (·.dst) with
   | some d=>match T d with
     | .v (.bool b)=>if b=want then(jG P T o.op).map some else some none
     | .v (.tuple _)=>some none
     | _=>none
   | none=>none
theorem kz{id:Nat}{o:Oper}:YB P ops id o K T h↔match ZA P ops T o with
  | some (some (ob,mk))=>h[id]? =some .res/\K (jb T o.dst (mk id)) (h.set id ob)
  | some none=>K (jb T o.dst (.v undef)) h
  | none=>False:=by
 unfold YB kT ZA JP
 cases o.guard with
 | none=>cases jG P T o.op<;>simp
 | some q=>
   obtain⟨j,want⟩:=q
   simp only[]
   cases (ops[j]?).bind (·.dst) with
   | none=>simp
   | some d=>
     simp only[]
     generalize T d=td
     split
     ·rename_i b
      by_cases a:b=want
      ·subst a
       cases jG P T o.op<;>simp
      ·simp[a]
     ·simp
     ·rename_i n1 n2
      split
      ·rename_i heq
       split at heq
       ·exact absurd rfl (n1 _)
       ·cases heq
       ·cases heq
      ·rename_i heq
       split at heq
       ·exact absurd rfl (n1 _)
       ·exact absurd rfl (n2 _)
       ·cases heq
      ·rfl
theorem JOa{o:Oper}{d:Nat}{v:AV}(a:vv ops o d=false):ZA P ops (upd T d v) o=ZA P ops T o:=by
 unfold vv at a
 rw[zY] at a
 unfold ZA
 cases f:o.guard with
 | none=>simp only[Kf o.op a.1]
 | some q=>
   obtain⟨j,want⟩:=q
   rw[f] at a
   simp only[]
   cases c:(ops[j]?).bind (·.dst) with
   | none=>rfl
   | some e=>
     have b:e≠d:=λh=>by
      have:=a.2
      simp[c,h] at this
     have g:upd T d v e=T e:=by simp[upd,b]
     simp only[g,Kf o.op a.1]
theorem KU{o z:Oper}{v:AV}(b:∀d,z.dst=some d->vv ops o d=false):ZA P ops (jb T z.dst v) o=ZA P ops T o:=by
 cases a:z.dst with
 | none=>rfl
 | some d=>exact JOa (b d a)
theorem ZGa{o:Oper}{ob:Ob}{mk:Nat->AV}(a:ZA P ops T o=some (some (ob,mk))):ob.isRes=false:=by
 have key:(jG P T o.op).map some=some (some (ob,mk))->ob.isRes=false:=λh=>by
  cases b:jG P T o.op with
  | none=>rw[b] at h;cases h
  | some q=>rw[b] at h;injection h with h;injection h with h;subst h;exact xGa b
 unfold ZA at a
 split at a
 ·exact key a
 ·split at a
  ·split at a
   ·split at a
    ·exact key a
    ·injection a with a;cases a
   ·injection a with a;cases a
   ·cases a
  ·cases a
theorem qya{o:Oper}(k:yk P T h o K):∃v h',K (jb T o.dst v) h'/\ResK h h':=by
 unfold yk at k
 split at k
 ·rename_i x h' a;exact⟨x,h',k,(Z4 (φ:=λ_=> .res) (λ_ _=>rfl) _ a).2⟩
 ·split at k
  ·split at k
   ·obtain⟨_,⟨r,h',k2,k3⟩,_⟩:=k;exact⟨r,h',k2,k3⟩
   ·exact k.elim
  ·exact k.elim
theorem YE{o:Oper}(k:vO P ops o K T h):∃v h',K (jb T o.dst v) h'/\ResK h h':=by
 unfold vO kT at k
 split at k
 ·exact qya k
 ·rename_i j want c
  split at k
  ·split at k
   ·rename_i b _
    by_cases a:b=want
    ·exact qya (k.1 a)
    ·exact⟨_,h,k.2 a,.refl⟩
   ·exact⟨_,h,k,.refl⟩
   ·exact k.elim
  ·exact k.elim
theorem JPa{o:Oper}{id:Nat}{ob:Ob}(k:yk P T h o K)(hi:h[id]? =some .res)(f:ob.isRes=false)(d:∀v h',ResK h h'->K (jb T o.dst v) h'->K' (jb T o.dst v) (h'.set id ob)):yk P T (h.set id ob) o K':=
 Xs (Vna k hi f) λi g ⟨h',e,a,⟨v,b⟩,c⟩=>by subst e b;exact d v h' c a
section
variable {kk:IntKind} {n n':Int} {v v':AV}
theorem ZB(a:n≠n'):∀(es:List (AV × AV)),kR n' (xh kk n v es)=kR n' es
 | []=>by simp[xh,kR,vm,a]
 | e::r=>by
   unfold xh
   split
   ·simp[kR,vm,a]
   ·simp[kR,ZB a r]
theorem yv(a:n≠n'):∀(es:List (AV × AV)),kR n' (xC kk n v es)=kR n' es
 | []=>rfl
 | e::r=>by
   unfold xC
   split
   ·rename_i h
    have k1:vm (.v (.int kk n),v)=n:=rfl
    simp[kR,k1,yv a r,h]
   ·simp[kR,yv a r]
theorem yna(a:n≠n'):∀(es:List (AV × AV)),xC kk n v (xC kk n' v' es)=xC kk n' v' (xC kk n v es)
 | []=>rfl
 | e::r=>by
   have k1:vm (.v (.int kk n),v)=n:=rfl
   have k2:vm (.v (.int kk n'),v')=n':=rfl
   have b:=yna a r
   by_cases d:vm e=n
   ·simp[xC,d,a,k1,b]
   ·by_cases c:vm e=n'
    ·simp[xC,c,show n'≠n from λe=>a e.symm,k2,b]
    ·simp[xC,d,c,b]
theorem jEa(a:n≠n'):∀(es:List (AV × AV)),xC kk n v (xh kk n' v' es)=xh kk n' v' (xC kk n v es)
 | []=>by
   have k2:vm (.v (.int kk n'),v')=n':=rfl
   simp[xC,xh,k2,show n'≠n from λe=>a e.symm]
 | e::r=>by
   have k1:vm (.v (.int kk n),v)=n:=rfl
   have k2:vm (.v (.int kk n'),v')=n':=rfl
   have d:=jEa a r
   by_cases c:vm e=n
   ·by_cases b:n'<n
    ·simp[xC,xh,c,k1,k2,b,show n'≠n from λe=>a e.symm]
    ·simp[xC,xh,c,k1,b,d]
   ·by_cases b:n'<vm e
    ·simp[xC,xh,c,k2,b,show n'≠n from λe=>a e.symm]
    ·simp[xC,xh,c,b,d]
theorem vNa:∀ {es:List (AV × AV)},vE kk (xh kk n v es)=vE kk es:=by
 intro es
 rw[Bool.eq_iff_iff,xw,xw]
 constructor
 ·exact λh q a=>h q ((Z3 es).mem_iff.2 (by simp[a]))
 ·intro h q a
  rcases zy.1 ((Z3 es).mem_iff.1 a) with rfl|a
  ·rfl
  ·exact h q a
theorem vOa{es:List (AV × AV)}(h:vE kk es=true):vE kk (xC kk n v es)=true:=by
 rw[xw] at h⊢
 intro q b
 rw[yr,zt] at b
 obtain⟨d,e,a⟩:=b
 by_cases c:vm d=n
 ·rw[if_pos c] at a;subst a;rfl
 ·rw[if_neg c] at a;subst a;exact h _ e
theorem ZHa{es g j:List (AV × AV)}(d:n≠n')(i:JD kk n v es=some g)(h:JD kk n' v' g=some j):∃b,JD kk n' v' es=some b/\JD kk n v b=some j:=by
 unfold JD at i
 split at i
 case isFalse=>cases i
 rename_i l
 injection i with i
 have m:vE kk g=true:=by
  unfold JD at h
  split at h
  ·assumption
  ·cases h
 have f:n'≠n:=λe=>d e.symm
 refine⟨_,by unfold JD;rw[if_pos l],?_⟩
 unfold JD at h⊢
 rw[if_pos m] at h
 have k:vE kk (if kR n' es=true then xC kk n' v' es else xh kk n' v' es)=true:=by
  split
  ·exact vOa l
  ·rw[vNa];exact l
 rw[if_pos k, <-h, <-i]
 congr 1
 by_cases a:kR n es=true<;>by_cases c:kR n' es=true
 ·simp only[a,c,if_true,yv d,yv f,yna d]
 ·simp only[a,c,if_true,if_false,Bool.false_eq_true,yv d,ZB f,jEa d]
 ·simp only[a,c,if_true,if_false,Bool.false_eq_true,ZB d,yv f,jEa f]
 ·simp only[a,c,if_false,Bool.false_eq_true,ZB d,ZB f,Wp d]
end
theorem YF{t:TypeId}{a:Tmp}{kk:IntKind}{n:Int}{v:Operand}{u:AV}{h':List Ob}(b:qf P T h (.insert t (.tmp a) (.const (.int kk n)) v)=some (u,h')):
  ∃ id es es',T a= .mp id/\h[id]? =some (.mapo es)/\JD kk n (ev T v) es=some es'/\u= .v undef/\h'=h.set id (.mapo es')/\
    ∀e g i f n2,e[id]? =some (.mapo g)->JD kk n2 (ev T f) g=some i->qf P T e (.insert t (.tmp a) (.const (.int kk n2)) f)=some (.v undef,e.set id (.mapo i)):=by
 simp only[qf,show ev T (.tmp a)=T a from rfl,show ev T (.const (.int kk n))= .v (.int kk n) from rfl] at b
 split at b
 ·rename_i r q id kk' n' l k c
  injection c with c
  injection c with hk1 hk2
  subst hk1 hk2
  split at b
  ·rename_i d es j p
   split at b
   ·rename_i heq
    subst heq
    cases hi:JD d n (ev T v) es with
    | none=>rw[hi] at b;cases b
    | some es'=>
      rw[hi] at b
      injection b with b;injection b with hx1 hx2;subst hx1 hx2
      refine⟨id,es,es',k,p,hi,rfl,rfl,λe g i f n2 m o=>?_⟩
      simp only[qf,show ev T (.tmp a)=T a from rfl,show ev T (.const (.int d n2))= .v (.int d n2) from rfl,l,k,j,m,if_true,o]
      rfl
   ·cases b
  ·cases b
 ·cases b
theorem JQa(c:jDa x y=true)(Z:xLa ops x y=true)(s:p.2.2=[])(H:q.2.2=[])(k:kU P ops b p x (kU P ops b q y K) T h):kU P ops b (q.1,q.2.1,[]) y (kU P ops b p x K) T h:=by
 obtain⟨B,I⟩:=YD Z
 obtain⟨i,ψ,xt,xp,xa,M⟩:=x
 obtain⟨A,α,yt,yp,ya,R⟩:=y
 unfold jDa at c
 simp only at c
 split at c
 case h_2=>cases c
 rename_i t m k1 n v t' m' k2 n' v'
 simp only[zq,beq_iff_eq,bne_iff_ne,ne_eq] at c
 obtain⟨⟨⟨⟨⟨C,X⟩,hk⟩,hn⟩,l⟩,j⟩:=c
 subst X hk
 split at C
 case h_2=>cases C
 rename_i a a'
 have C:a=a':=by simpa using C
 subst C
 have l:M=none:=by cases M<;>simp_all
 have j:R=none:=by cases R<;>simp_all
 subst l j
 have c3:∀z w,cls (.insert t (.tmp a) z w)≠3:=λz w=>by simp[cls]
 have e:∀(q:Ent) (o:Oper) (K:Env->List Ob->Prop) (T:Env) (h:List Ob) (z w:Operand),q.2.2=[]->o.op= .insert t (.tmp a) z w->o.guard=none->(kU P ops b q o K T h↔∃u h',qf P T h o.op=some (u,h')/\K (jb T o.dst u) h'):=λq o K T h z w Y Q hg=>by
  rw[wW (by rw[Q];exact c3 z w),Y]
  simp only[jI,true_and,vO,kT,hg,JKa,yk]
  cases he:qf P T h o.op with
  | none=>simp[Q]
  | some r=>obtain⟨u,h'⟩:=r;simp only[Option.some.injEq,Prod.mk.injEq];exact⟨λk=>⟨u,h',⟨rfl,rfl⟩,k⟩,λ⟨_,_,⟨E,D⟩,k⟩=>by subst E D;exact k⟩
 rw[e p _ _ T h _ _ s rfl rfl] at k
 obtain⟨u,h1,E,k⟩:=k
 rw[e q _ _ _ h1 _ _ H rfl rfl] at k
 obtain⟨u',h2,D,k⟩:=k
 have hy:∀u h,qf P (jb T i u) h (.insert t (.tmp a) (.const (.int k1 n')) v')=qf P T h (.insert t (.tmp a) (.const (.int k1 n')) v'):=λu h=>by
  cases g:i with
  | none=>rfl
  | some d=>
    have:=(B d g).1
    unfold vv at this
    rw[zY] at this
    exact yu _ this.1
 have hx:∀u h,qf P (jb T A u) h (.insert t (.tmp a) (.const (.int k1 n)) v)=qf P T h (.insert t (.tmp a) (.const (.int k1 n)) v):=λu h=>by
  cases g:A with
  | none=>rfl
  | some d=>
    have:=(I d g).1
    unfold vv at this
    rw[zY] at this
    exact yu _ this.1
 simp only at E D
 rw[hy] at D
 obtain⟨id,es,τ,m1,G,m3,m4,W,O⟩:=YF E
 obtain⟨U,es',L,F,f,S,o4,V,o6⟩:=YF D
 rw[m1] at F
 injection F with F
 subst F m4 o4 W
 rw[zo (vP G)] at f
 injection f with f
 injection f with f
 subst f
 obtain⟨N,i1,i2⟩:=ZHa hn m3 S
 rw[e (q.1,q.2.1,[]) _ _ T h _ _ rfl rfl rfl]
 refine⟨.v undef,_,O h es N v' n' G i1,?_⟩
 rw[e p _ _ _ _ _ _ s rfl rfl]
 simp only
 rw[hx]
 refine⟨.v undef,_,O _ N L v n (by rw[zo (vP G)]) i2,?_⟩
 rw[qd]
 subst V
 rw[qd] at k
 have J:jb (jb T i (.v undef)) A (.v undef)=jb (jb T A (.v undef)) i (.v undef):=WZ (x:=⟨i,.insert t (.tmp a) (.const (.int k1 n)) v,xt,xp,xa,none⟩) (y:=⟨A,.insert t (.tmp a) (.const (.int k1 n')) v',yt,yp,ya,none⟩) λd g=>(B d g).2
 simp only at k
 rw[J] at k
 exact k
theorem jFa{op:Op}{mk:Nat->AV}{ob:Ob}(a:jG P T op=some (ob,mk))(b:xMa op=true):∀es,ob≠ .mapo es:=by
 intro es e
 subst e
 cases op<;>simp only[xMa] at b<;>first
  | cases b;done
  | skip
 all_goals
  simp only[jG] at a
  repeat' split at a
 all_goals first
  | cases a;done
  | (simp only[Option.map_eq_some_iff,Prod.mk.injEq] at a;obtain⟨_,_,h,_⟩:=a;cases h;done)
theorem vPa{o:Oper}{ob:Ob}{mk:Nat->AV}(a:ZA P ops T o=some (some (ob,mk)))(c:xMa o.op=true):∀es,ob≠ .mapo es:=by
 have key:(jG P T o.op).map some=some (some (ob,mk))->∀es,ob≠ .mapo es:=λh=>by
  cases b:jG P T o.op with
  | none=>rw[b] at h;cases h
  | some q=>rw[b] at h;injection h with h;injection h with h;subst h;exact jFa b c
 unfold ZA at a
 split at a
 ·exact key a
 ·split at a
  ·split at a
   ·split at a
    ·exact key a
    ·injection a with a;cases a
   ·injection a with a;cases a
   ·cases a
  ·cases a
theorem ZIa{id:Nat}{ob:Ob}{t:TypeId}{m k v:Operand}{u:AV}{l:List Ob}(f:∀es,ob≠ .mapo es)(a:qf P T (h.set id ob) (.insert t m k v)=some (u,l))(hi:h[id]? =some .res):
  ∃h',qf P T h (.insert t m k v)=some (u,h')/\l=h'.set id ob/\h'[id]? =some .res:=by
 simp only[qf] at a⊢
 split at a
 ·rename_i r p g kk n q o j
  split at a
  ·rename_i kk' es i d
   have b:id≠g:=λe=>by
    subst e
    rw[zo (zd.1 hi).1] at d
    injection d with d
    exact f es d
   rw[zc b] at d
   split at a
   ·rename_i heq
    simp only[i,d,if_pos heq]
    cases c:JD kk' n (ev T v) es with
    | none=>subst heq;rw[c] at a;cases a
    | some es'=>
      subst heq
      rw[c] at a
      injection a with a;injection a with hx1 hx2;subst hx1 hx2
      refine⟨_,by rw[c];rfl,by rw[List.set_comm _ _ b],by rw[zc (λe=>b e.symm)];exact hi⟩
   ·cases a
  ·cases a
 ·cases a
theorem vQa(n:JNa x y=true)(N:xLa ops x y=true)(Q:p.2.2=[])(j:q.2.2=[])(k:kU P ops b p x (kU P ops b q y K) T h):kU P ops b (q.1,q.2.1,[]) y (kU P ops b p x K) T h:=by
 obtain⟨o,D⟩:=YD N
 simp only[JNa,zq] at n
 obtain⟨⟨A,H⟩,I⟩:=n
 have e:cls x.op=3:=by
  generalize x.op=op at A
  cases op<;>simp only[xMa] at A<;>first
   | rfl
   | cases A
 obtain⟨g,B,C,G,F,J⟩:=y
 simp only at H I
 have I:J=none:=by cases J<;>simp_all
 subst I
 cases B<;>simp only[Yoa] at H<;>first
  | cases H;done
  | skip
 rename_i t m kk v
 have E:cls (.insert t m kk v)≠3:=by simp[cls]
 have a:∀(q:Ent) (K:Env->List Ob->Prop) (T:Env) (h:List Ob),q.2.2=[]->(kU P ops b q ⟨g,.insert t m kk v,C,G,F,none⟩ K T h↔∃u h',qf P T h (.insert t m kk v)=some (u,h')/\K (jb T g u) h'):=λq K T h M=>by
  rw[wW E,M]
  simp only[jI,true_and,vO,kT,JKa,yk]
  cases W:qf P T h (.insert t m kk v) with
  | none=>simp
  | some r=>obtain⟨u,h'⟩:=r;simp only[Option.some.injEq,Prod.mk.injEq];exact⟨λk=>⟨u,h',⟨rfl,rfl⟩,k⟩,λ⟨_,_,⟨f,U⟩,k⟩=>by subst f U;exact k⟩
 have c:∀w h,qf P (jb T x.dst w) h (.insert t m kk v)=qf P T h (.insert t m kk v):=λw h=>by
  cases i:x.dst with
  | none=>rfl
  | some d=>
    have:=(o d i).1
    unfold vv at this
    rw[zY] at this
    exact yu _ this.1
 have s:∀u w,jb (jb T x.dst u) g w=jb (jb T g w) x.dst u:=λu w=>WZ (y:=⟨g,.insert t m kk v,C,G,F,none⟩) λd i=>(o d i).2
 have l:∀w,ZA P ops (jb T g w) x=ZA P ops T x:=λw=>KU (z:=⟨g,.insert t m kk v,C,G,F,none⟩) λd i=>(D d i).1
 rw[we e,kz] at k
 rw[a _ _ T h rfl]
 cases hex:ZA P ops T x with
 | none=>rw[hex] at k;exact k.elim
 | some ex=>
   rw[hex] at k
   cases ex with
   | none=>
     simp only at k
     rw[a _ _ _ _ j] at k
     obtain⟨u,h',f,k⟩:=k
     rw[c] at f
     refine⟨u,h',f,?_⟩
     rw[we e,kz,l,hex]
     simp only
     rw[<-s]
     exact k
   | some L=>
     obtain⟨ob,mk⟩:=L
     simp only at k
     obtain⟨k1,k2⟩:=k
     rw[a _ _ _ _ j] at k2
     obtain⟨u,h',f,k2⟩:=k2
     rw[c] at f
     obtain⟨R,V,S,O⟩:=ZIa (vPa hex A) f k1
     refine⟨u,R,V,?_⟩
     rw[we e,kz,l,hex]
     simp only
     rw[<-s]
     subst S
     exact⟨O,k2⟩
theorem qZb{l2:List Nat}(J:ops[p.1]? =some x)(hs:QZ ops p q x y=true)(hp:cls x.op≠2->p.2.2=[])(hq:cls y.op≠2->q.2.2=[])(S:ops[q.1]? =some y)
  (A:∀l∈l2,l∈q.2.2/\wc ops l p.1=true) (Y:∀l∈p.2.2,wc ops l q.1=true) (τ:∀l,l∈q.2.2->l∉l2->l=p.1)
  (hr:cls y.op=3->h[b+q.2.1]? =some .res) (γ:cls x.op=3->cls y.op=3->p.2.1≠q.2.1) (M:p.1∈q.2.2->∀d,x.dst=some d->vv ops x d=false)
  (k:kU P ops b p x (kU P ops b q y K) T h):kU P ops b (q.1,q.2.1,l2) y (kU P ops b p x K) T h:=by
 simp only[QZ,zq,Bool.or_eq_true,beq_iff_eq,bne_iff_ne,ne_eq,decide_eq_true_eq] at hs
 obtain⟨ha,hs⟩:=hs
 obtain⟨z,B⟩:=YD ha
 have Q:cls y.op=3->kU P ops b (q.1,q.2.1,l2) y (kU P ops b p x K) T h:=λhy=>by
  have hi:=hr hy
  rw[we hy,kz]
  have i:∀v h',kU P ops b q y K (jb T x.dst v) h'↔match ZA P ops T y with
    | some (some (ob,mk))=>h'[b+q.2.1]? =some .res/\K (jb (jb T x.dst v) y.dst (mk (b+q.2.1))) (h'.set (b+q.2.1) ob)
    | some none=>K (jb (jb T x.dst v) y.dst (.v undef)) h'
    | none=>False:=λv h'=>by
   rw[we hy,kz,KU (λd c=>(z d c).1)]
  have I:∀u v,jb (jb T x.dst u) y.dst v=jb (jb T y.dst v) x.dst u:=λu v=>WZ λd c=>(z d c).2
  have E:∀d,y.dst=some d->vv ops x d=false:=λd c=>(B d c).1
  by_cases G:cls x.op=3
  ·rw[we G,kz] at k
   have H:ZA P ops (jb T y.dst (.v undef)) x=ZA P ops T x/\∀v,ZA P ops (jb T y.dst v) x=ZA P ops T x:=⟨KU E,λv=>KU E⟩
   cases hex:ZA P ops T x with
   | none=>rw[hex] at k;exact k.elim
   | some ex=>
     rw[hex] at k
     have L:b+p.2.1≠b+q.2.1:=λe=>γ G hy (by omega)
     cases ex with
     | none=>
       simp only at k
       rw[i] at k
       cases j:ZA P ops T y with
       | none=>rw[j] at k;exact k.elim
       | some X=>cases X with
         | none=>simp only[j] at k ⊢;rw[we G,kz,H.2,hex];simp only;rw[<-I];exact k
         | some V=>obtain⟨ob,mk⟩:=V;simp only[j] at k ⊢;refine⟨hi,?_⟩;rw[we G,kz,H.2,hex];simp only;rw[<-I];exact k.2
     | some ox=>
       obtain⟨ox,mx⟩:=ox
       simp only at k
       obtain⟨k1,k2⟩:=k
       rw[i] at k2
       cases j:ZA P ops T y with
       | none=>rw[j] at k2;exact k2.elim
       | some X=>cases X with
         | none=>simp only[j] at k2 ⊢;rw[we G,kz,H.2,hex];simp only;rw[<-I];exact⟨k1,k2⟩
         | some V=>
           obtain⟨ob,mk⟩:=V
           simp only[j] at k2⊢
           refine⟨hi,?_⟩
           rw[we G,kz,H.2,hex]
           simp only
           rw[<-I,zc (λe=>L e.symm),List.set_comm _ _ (λe=>L e.symm)]
           exact⟨k1,k2.2⟩
  ·rw[wW G] at k
   obtain⟨v0,h0,k0,_⟩:=YE k
   have k0:=(i v0 h0).1 k0.2
   cases j:ZA P ops T y with
   | none=>rw[j] at k0;exact k0.elim
   | some X=>cases X with
     | none=>
       simp only
       rw[wW G]
       have:vO P ops x (λg a=>jI P ops g a p.2.2/\K (jb g y.dst (.v undef)) a) T h:=kx (Qv k) λg a ⟨⟨f,m⟩,⟨v,e⟩,_⟩=>by
        subst e
        refine⟨f,?_⟩
        have:=(i v a).1 m
        rw[j] at this
        exact this
       have κ:vO P ops x (λg a=>jI P ops g a p.2.2/\K g a) (jb T y.dst (.v undef)) h:=by
        cases c:y.dst with
        | none=>
          rw[c] at this
          exact this
        | some d=>
          rw[c] at this
          show vO P ops x _ (upd T d (.v undef)) h
          rw[Xt (B d c).1 (B d c).2]
          refine kx this λg a ⟨f,m⟩=>⟨?_,m⟩
          rw[xD] at f⊢
          intro l s
          have:=(Xu (P:=P) (T:=g) (h:=a) (v:= .v undef) (p:=q) S (Y l s)).2 (f l s)
          rw[c] at this
          exact this
       exact κ
     | some V=>
       obtain⟨ob,mk⟩:=V
       simp only
       refine⟨hi,?_⟩
       have N:=ZGa j
       rw[wW G]
       have key:vO P ops x (λg a=>jI P ops g a p.2.2/\K (jb g y.dst (mk (b+q.2.1))) a) T (h.set (b+q.2.1) ob):=by
        refine jCa k (λk=>JPa k hi N λv h' ζ ⟨f,m⟩=>?_) λ⟨f,m⟩=>?_
        ·have m:=(i v h').1 m
         rw[j] at m
         refine⟨?_,m.2⟩
         rw[xD] at f⊢
         exact λl s=>xQa (f l s) (ζ _ hi) N
        ·have m:=(i _ h).1 m
         rw[j] at m
         refine⟨?_,m.2⟩
         rw[xD] at f⊢
         exact λl s=>xQa (f l s) hi N
       cases c:y.dst with
       | none=>rw[c] at key;exact key
       | some d=>
         rw[c] at key
         show vO P ops x _ (upd T d (mk (b+q.2.1))) (h.set (b+q.2.1) ob)
         rw[Xt (B d c).1 (B d c).2]
         refine kx key λg a ⟨f,m⟩=>⟨?_,m⟩
         rw[xD] at f⊢
         intro l s
         have:=(Xu (P:=P) (T:=g) (h:=a) (v:=mk (b+q.2.1)) (p:=q) S (Y l s)).2 (f l s)
         rw[c] at this
         exact this
 rcases hs with(((((⟨ι,O⟩|⟨θ,W⟩)|O)|⟨⟨θ,υ⟩,t⟩)|⟨⟨F,C⟩,n⟩)|⟨⟨F,C⟩,n⟩)
 ·
  have w:=hp (by omega)
  rw[vg (by omega) w] at k
  obtain⟨D,Z,a⟩:=k
  rw[wW O] at a⊢
  have R:vO P ops y (λg a=>jI P ops g a l2/\K (jb g x.dst D) a) T h:=by
   cases c:x.dst with
   | none=>rw[c] at a;exact kx a λg a ⟨f,m⟩=>⟨by rw[xD] at f ⊢;exact λl s=>f l (A l s).1,m⟩
   | some d=>
     rw[c] at a
     have a:vO P ops y _ (upd T d D) h:=a
     rw[Xt (z d c).1 (z d c).2] at a
     refine kx a λg a ⟨f,m⟩=>⟨?_,m⟩
     rw[xD] at f⊢
     intro l s
     have:=f l (A l s).1
     refine(Xu (P:=P) (T:=g) (h:=a) (v:=D) J (A l s).2).1 ?_
     rw[c];exact this
  refine kx (Qv R) λg a ⟨⟨f,m⟩,⟨v,e⟩,_⟩=>⟨f,?_⟩
  subst e
  refine(vg (by omega) w).2 ⟨D,?_,m⟩
  rw[KT λd c=>(B d c).1,ZDa ι a h]
  exact Z
 ·have w:=hp (by omega)
  have U:=hq (by omega)
  have o:l2=[]:=by
   cases l2 with
   | nil=>rfl
   | cons l r=>have:=(A l (by simp)).1;rw[U] at this;cases this
  subst o
  rw[vg (by omega) w] at k
  obtain⟨D,Z,a⟩:=k
  rw[vg W U] at a
  obtain⟨vy,R,h4⟩:=a
  rw[KT λd c=>(z d c).1] at R
  refine(vg (q:=(q.1,q.2.1,[])) W rfl).2 ⟨vy,R,(vg (by omega) w).2 ⟨D,?_,?_⟩⟩
  ·rw[KT λd c=>(B d c).1];exact Z
  ·rw[<-WZ λd c=>(z d c).2];exact h4
 ·exact Q O
 ·
  have w:=hp (by omega)
  rw[vg (by omega) w] at k
  obtain⟨D,Z,a⟩:=k
  rw[wW (by omega)] at a⊢
  have t:p.1∈q.2.2:=by simpa using t
  have R:vO P ops y (λg a=>(jI P ops g a l2/\Qt P ops g a x=some D)/\K (jb g x.dst D) a) T h:=by
   have η:∃d,x.dst=some d:=by
    obtain⟨v0,h0,⟨f,_⟩,_⟩:=YE a
    rw[xD] at f
    have:=f p.1 t
    unfold y7 at this
    rw[J] at this
    simp only at this
    cases c:x.dst with
    | none=>rw[c] at this;exact this.elim
    | some d=>exact⟨d,rfl⟩
   obtain⟨d,c⟩:=η
   rw[c] at a⊢
   have a:vO P ops y _ (upd T d D) h:=a
   rw[Xt (z d c).1 (z d c).2] at a
   refine kx (Qv a) λg a ⟨⟨f,m⟩,⟨v,e⟩,_⟩=>⟨⟨?_,?_⟩,m⟩
   ·rw[xD] at f⊢
    intro l s
    have:=f l (A l s).1
    refine(Xu (P:=P) (T:=g) (h:=a) (v:=D) J (A l s).2).1 ?_
    rw[c];exact this
   ·rw[xD] at f
    have:=f p.1 t
    unfold y7 at this
    rw[J] at this
    simp only[c] at this
    rw[xNa (M t d c)] at this
    rw[this];simp[upd]
  refine kx (Qv R) λg a ⟨⟨⟨f,q0⟩,m⟩,⟨v,e⟩,_⟩=>⟨f,?_⟩
  exact(vg (by omega) w).2 ⟨D,q0,m⟩
 ·
  have C:p.2.2=[]:=by simpa using C
  have n:q.2.2=[]:=by simpa using n
  have o:l2=[]:=by
   cases l2 with
   | nil=>rfl
   | cons l r=>have:=(A l (by simp)).1;rw[n] at this;cases this
  subst o
  exact JQa F ha C n k
 ·have C:p.2.2=[]:=by simpa using C
  have n:q.2.2=[]:=by simpa using n
  have o:l2=[]:=by
   cases l2 with
   | nil=>rfl
   | cons l r=>have:=(A l (by simp)).1;rw[n] at this;cases this
  subst o
  exact vQa F ha C n k
end
