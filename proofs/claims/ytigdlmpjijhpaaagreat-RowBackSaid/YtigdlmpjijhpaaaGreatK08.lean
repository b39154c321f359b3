import Derived.Test.YtigdlmpjijhpaaaGreatKA
import Derived.Test.YtigdlmpjijhpaaaGreatK07
set_option linter.all false
namespace Go.Proofs.YtigdlmpjijhpaaaGreat.Ax
open Go Go.RowKit
abbrev Ent:=Nat × Nat × List Nat
def vI(P:Program)(ops:Array Oper)(T:Env)(h:List Ob)(l:Nat):Prop:=match ops[l]? with
 | some o=>match o.dst with
   | some d=>Zj P ops T h o=some (T d)
   | none=>False
 | none=>False
def jk(P:Program)(ops:Array Oper)(T:Env)(h:List Ob):List Nat->Prop
 | []=>True
 | l::r=>vI P ops T h l/\jk P ops T h r
def xZ(P:Program)(ops:Array Oper)(b:Nat)(q:Ent)(o:Oper)(K:Env->List Ob->Prop)(T:Env)(h:List Ob):Prop:=
 if cls o.op=3 then VF P ops (b+q.2.1) o K T h else kU P ops o (λT h=>jk P ops T h q.2.2/\K T h) T h
def wpE(P:Program)(ops:Array Oper)(b:Nat)(K:Env->List Ob->Prop):List Ent->Env->List Ob->Prop
 | [],T,h=>K T h
 | q::r,T,h=>match ops[q.1]? with
   | some o=>xZ P ops b q o (wpE P ops b K r) T h
   | none=>False
def xH(o:Oper):List Nat:=(o.after.toList.filter (Region.binds .any)).map (·.on)
def Zp(ops:Array Oper):Nat->Nat->Nat->Bool
 | 0,j,i=>match ops[i]? with
   | some o=>(xH o).contains j
   | none=>false
 | f+1,j,i=>match ops[i]? with
   | some o=>(xH o).contains j || (xH o).any λk=>decide (j<k) && Zp ops f j k
   | none=>false
def zHa(x y:Oper):Bool:=match x.op,y.op with
 | .insert t m (.const (.int k n)) _,.insert d c (.const (.int k' n')) _=>(match m,c with
   | .tmp a,.tmp b=>a==b
   | _,_=>false) && t==d && k==k' && n != n' && x.guard.isNone && y.guard.isNone
 | _,_=>false
def qAa:Op->Bool
 | .alloc .. | .box .. | .buildSlice .. | .makeSlice .. =>true
 | _=>false
def Xpa:Op->Bool
 | .insert .. =>true
 | _=>false
def yBa(x y:Oper):Bool:=qAa x.op && Xpa y.op && y.guard.isNone
def vi(ops:Array Oper)(l p:Nat):Bool:=match ops[l]?,ops[p]? with
 | some a,some b=>match b.dst with
   | some d=> !kD ops a d && a.dst != some d
   | none=>true
 | _,_=>false
def ZN(ops:Array Oper)(p q:Ent)(x y:Oper):Bool:=qza ops x y &&
 ((cls x.op==0 && cls y.op != 3) || (cls x.op==1 && decide (cls y.op<=1)) || cls y.op==3 || (cls x.op==1 && cls y.op==2 && q.2.2.contains p.1) || (zHa x y && p.2.2.isEmpty && q.2.2.isEmpty) || (yBa x y && p.2.2.isEmpty && q.2.2.isEmpty))
def wF(ops:Array Oper)(p q:Ent):Bool:=match ops[p.1]?,ops[q.1]? with
 | some x,some y=>(Zp ops 8 p.1 q.1 || ZN ops p q x y) && !Zp ops 8 q.1 p.1 && !p.2.2.contains q.1 && (cls x.op != 3 || cls y.op != 3 || p.2.1 != q.2.1)
 | _,_=>false
def Xn(ops:Array Oper):List Ent->Bool
 | []=>true
 | x::r=>r.all (wF ops x) && Xn ops r
def JL(ops:Array Oper):Nat->List Oper->Bool
 | _,[]=>true
 | i,o::r=>(xH o).all (λj=>decide (j<i)) && JL ops (i+1) r
def Zb(ops:Array Oper)(l:Nat):Bool:=(match ops[l]? with
 | some o=>decide (cls o.op<=1) && (match o.dst with
   | some d=> !kD ops o d
   | none=>false)
 | none=>false) && (List.range ops.size).all λp=>p==l || Zp ops 8 p l || vi ops l p
def kOa(ops:Array Oper)(k:Nat)(q:Ent):Bool:=match ops[q.1]? with
 | some o=>(cls o.op==2 || q.2.2.isEmpty) && (cls o.op != 3 || decide (q.2.1<k)) && !q.2.2.contains q.1 && q.2.2.all (Zb ops)
 | none=>false
def Qy(ops:Array Oper)(k:Nat)(a:List Ent):Bool:=
 Xn ops a && JL ops 0 ops.toList && a.all (kOa ops k) && (List.range ops.size).all (λi=>(a.map (·.1)).contains i) && decide (a.map (·.1)).Nodup && decide (a.length<=ops.size)
section
variable {P:Program} {N:Nat} {B:Bs} {ops:Array Oper} {T:Env} {h:List Ob} {K K':Env->List Ob->Prop} {b:Nat} {p q:Ent} {x y:Oper}
theorem jF{l:List Nat}:jk P ops T h l↔∀i∈l,vI P ops T h i:=by
 induction l with
 | nil=>simp[jk]
 | cons i l a=>simp[jk,a]
theorem YC{o:Oper}(a:cls o.op<=1):wj P T h o K↔∃x,(zW P T h o.op).map (·.1)=some x/\K (qK T o.dst x) h:=by
 unfold wj
 cases d:zW P T h o.op with
 | some q=>
   obtain⟨x,h'⟩:=q
   have:=xqa a d
   subst this
   simp
 | none=>
   simp only[Option.map_none]
   constructor
   ·intro k
    generalize o.op=op at k a d
    cases op<;>first
     | exact k.elim
     | skip
    rename_i c
    obtain⟨callee,args,f⟩:=c
    cases callee with
    | builtin b=>exact k.elim
    | value x=>simp[cls] at a
    | invoke r m=>exact k.elim
   ·rintro ⟨x,e,_⟩;cases e
theorem xra{o:Oper}(c:cls o.op<=1):kU P ops o K T h↔∃x,Zj P ops T h o=some x/\K (qK T o.dst x) h:=by
 unfold kU xY Zj yya
 cases o.guard with
 | none=>exact YC c
 | some q=>
   obtain⟨j,a⟩:=q
   simp only[]
   cases (ops[j]?).bind (·.dst) with
   | none=>simp
   | some d=>
     simp only[]
     split
     ·rename_i b _
      by_cases e:b=a
      ·subst e
       simp only[true_implies,ne_eq,not_true_eq_false,false_implies,and_true,if_true]
       exact YC c
      ·simp[e]
     ·simp
     ·simp
theorem vNa{op:Op}(a:cls op=0)(h h':List Ob):(zW P T h op).map (·.1)=(zW P T h' op).map (·.1):=by
 cases op<;>simp only[cls] at a<;>try (omega;done)
 case binOp op t y z u=>
  have g:¬ QZ z=true:=λh=>by rw[if_pos h] at a;omega
  simp only[zW,if_neg g]
  simp[Option.map_map,Function.comp_def]
 case build t ps=>
  simp only[zW]
  repeat' split
  all_goals first|rfl|skip
  all_goals
   cases (zE P t).zero with
   | none=>rfl
   | some z=>simp only[Option.bind_some];simp[Option.map_map,Function.comp_def]
 case fieldAddr t y i=>
  simp only[zW]
  split
  ·rename_i d _
   cases d[i]? with
   | none=>rfl
   | some f=>
     simp only[Option.bind_some]
     split
     ·split<;>rfl
     ·rfl
  ·rfl
 case field t y i=>
  simp only[zW]
  split
  ·rename_i d _ _ _
   cases d[i]? with
   | none=>rfl
   | some f=>
     simp only[Option.bind_some]
     split
     ·simp[Option.map_map,Function.comp_def]
     ·rfl
  ·rfl
 case call c=>
  obtain⟨callee,args,e⟩:=c
  cases callee with
  | builtin b=>
    cases b<;>simp at a
    ·simp only[zW,Zn]
     split<;>simp_all [Function.comp_def]
    ·simp only[zW,Zn]
     split<;>simp_all [Function.comp_def]
  | value x=>simp at a
  | invoke r m=>simp at a
 all_goals
  simp only[zW]
  repeat' split
 all_goals first|rfl|simp[Option.map_map,Function.comp_def]
theorem vOa{o:Oper}(a:cls o.op=0)(h h':List Ob):Zj P ops T h o=Zj P ops T h' o:=by
 unfold Zj
 rw[vNa a h h']
theorem qBa{o:Oper}{d:Nat}{x:AV}(a:kD ops o d=false):Zj P ops (upd T d x) h o=Zj P ops T h o:=by
 unfold kD at a
 rw[zQ] at a
 unfold Zj
 cases f:o.guard with
 | none=>simp only[wv o.op a.1]
 | some q=>
   obtain⟨j,c⟩:=q
   rw[f] at a
   simp only[]
   cases i:(ops[j]?).bind (·.dst) with
   | none=>rfl
   | some e=>
     have b:e≠d:=λh=>by
      have:=a.2
      simp[i,h] at this
     have g:upd T d x e=T e:=by simp[upd,b]
     simp only[g,wv o.op a.1]
theorem Xo{o y:Oper}{v:AV}(b:∀d,y.dst=some d->kD ops o d=false):Zj P ops (qK T y.dst v) h o=Zj P ops T h o:=by
 cases a:y.dst with
 | none=>rfl
 | some d=>exact qBa (b d a)
theorem Vc{x y:Oper}{u v:AV}(a:∀d,x.dst=some d->y.dst≠some d):qK (qK T x.dst u) y.dst v=qK (qK T y.dst v) x.dst u:=by
 cases b:x.dst with
 | none=>rfl
 | some d=>
   have:=a d b
   exact Xm (T:=T) (x:=u) (y:=v) this
theorem qCa{o:Oper}(k:wj P T h o K):wj P T h o λi d=>K i d/\(∃v,i=qK T o.dst v)/\ResK h d:=by
 unfold wj at*
 split
 ·rename_i x h' a
  rw[a] at k
  exact⟨k,⟨x,rfl⟩,(Za (φ:=λ_=> .res) (λ_ _=>rfl) _ a).2⟩
 ·rename_i a
  rw[a] at k
  clear a
  generalize o.op=op at k⊢
  cases op<;>first
   | exact k.elim
   | skip
  rename_i c
  simp only at k⊢
  cases f:yf T c with
  | none=>rw[f] at k;exact k.elim
  | some q=>
    rw[f] at k
    obtain⟨k1,⟨r,h',k2,k3⟩,k4⟩:=k
    refine⟨k1,⟨r,h',⟨k2,⟨r,rfl⟩,k3⟩,k3⟩,λφ p B w g vs s m j=>(k4 φ p B w g vs s m j).mono λe w' ⟨v,r,h',g',t,l,b,n⟩=>⟨v,r,h',g',t,⟨l,⟨r,rfl⟩,b⟩,b,n⟩⟩
theorem Zq{o:Oper}(k:kU P ops o K T h):kU P ops o (λb a=>K b a/\(∃v,b=qK T o.dst v)/\ResK h a) T h:=
 Qx k qCa λk=>⟨k,⟨_,rfl⟩,.refl⟩
theorem qDa{id:Nat}{ob:Ob}(hi:h[id]? =some .res):Upto (λi=>if i=id then ob else .res) h.length:=λi a=>by
 have:=(zd.1 hi).1
 exact if_neg (by omega)
theorem Qz{φ:Nat->Ob}{id:Nat}{ob:Ob}(hi:h[id]? =some .res)(b:ob.isRes=false):fill (λi=>if i=id then ob else φ i) h=fill φ (h.set id ob):=by
 apply qD
 intro j
 rw[vT,vT]
 by_cases a:id=j
 ·subst a
  rw[hi,zm (zd.1 hi).1]
  simp only[Option.map_some,Xc]
  rw[if_pos (show(Ob.res).isRes=true from rfl),if_pos trivial,if_neg (by rw[b];simp)]
 ·rw[zc a]
  cases h[j]? with
  | none=>rfl
  | some o=>simp[Xc,show j≠id from λe=>a e.symm]
theorem KB{id:Nat}{ob:Ob}(hi:h[id]? =some .res)(a:ob.isRes=false):fill (λi=>if i=id then ob else .res) h=h.set id ob:=by
 rw[Qz (φ:=λ_=> .res) hi a,Yp]
theorem YD{id:Nat}{ob:Ob}{op:Op}{x:AV}{h':List Ob}(d:zW P T h op=some (x,h'))(hi:h[id]? =some .res)(b:ob.isRes=false):zW P T (h.set id ob) op=some (x,h'.set id ob)/\ResK h h':=by
 obtain⟨a,c⟩:=Za (qDa (ob:=ob) hi) op d
 rw[KB hi b,KB (c id hi) b] at a
 exact⟨a,c⟩
theorem QMa{o:Oper}{id:Nat}{ob:Ob}{v:AV}(a:Zj P ops T h o=some v)(hi:h[id]? =some .res)(k:ob.isRes=false):Zj P ops T (h.set id ob) o=some v:=by
 have key:∀v,(zW P T h o.op).map (·.1)=some v->(zW P T (h.set id ob) o.op).map (·.1)=some v:=λv b=>by
  cases c:zW P T h o.op with
  | none=>rw[c] at b;cases b
  | some q=>
    obtain⟨y,h'⟩:=q
    rw[c] at b
    rw[(YD c hi k).1]
    exact b
 unfold Zj at*
 cases g:o.guard with
 | none=>simp only[g] at a ⊢;exact key v a
 | some q=>
   obtain⟨j,i⟩:=q
   simp only[g] at a⊢
   cases f:(ops[j]?).bind (·.dst) with
   | none=>simp only[f] at a;cases a
   | some d=>
     simp only[f] at a⊢
     split at a
     ·split at a
      ·rename_i e;rw[if_pos e];exact key v a
      ·rename_i e;rw[if_neg e];exact a
     ·exact a
     ·cases a
theorem QNa{id:Nat}{ob:Ob}{h':List Ob}(k:ResK h h'):ResK (h.set id ob) (h'.set id ob)∨(h.set id ob)[id]? =some .res:=by
 by_cases b:(h.set id ob)[id]? =some .res
 ·exact .inr b
 ·refine .inl λj a=>?_
  by_cases e:id=j
  ·subst e;exact absurd a b
  ·rw[zc e] at a ⊢;exact k j a
theorem vPa{f:FuncId}{aZ:List AV}{R:AV->List Ob->Prop}{id:Nat}{ob:Ob}(c:ACalls P f aZ h R)(hi:h[id]? =some .res)(a:ob.isRes=false):ACalls P f aZ (h.set id ob) λr h''=>∃h',h''=h'.set id ob/\R r h'/\ResK h h':=by
 have m:=(zd.1 hi).1
 have n:(h.set id ob)[id]? ≠some .res:=λe=>by
  rw[zm m] at e;injection e with e;subst e;cases a
 have b:∀h',ResK h h'->ResK (h.set id ob) (h'.set id ob):=λh' k=>by
  rcases QNa (id:=id) (ob:=ob) k with k|k
  ·exact k
  ·exact absurd k n
 obtain⟨y,⟨r,h',A,t⟩,D⟩:=c
 refine⟨y,⟨r,h'.set id ob,⟨h',rfl,A,t⟩,b h' t⟩,λφ C B w g vs s u o=>?_⟩
 have l:Upto (λi=>if i=id then ob else φ i) h.length:=λi j=>by
  have:i≠id:=by omega
  simp only[if_neg this]
  exact C i (by simpa using j)
 rw[<-Qz hi a] at s o
 refine(D _ l B w g vs s u o).mono λe w' ⟨v,r,h',g',z,x,d,q,p⟩=>?_
 rw[Qz hi a,Qz (d id hi) a] at q
 rw[Qz (d id hi) a] at p
 exact⟨v,r,h'.set id ob,g',z,⟨h',rfl,x,d⟩,b h' d,q,p⟩
theorem QOa{o:Oper}{id:Nat}{ob:Ob}(k:wj P T h o K)(hi:h[id]? =some .res)(i:ob.isRes=false):wj P T (h.set id ob) o λg n=>∃h',n=h'.set id ob/\K g h'/\(∃v,g=qK T o.dst v)/\ResK h h':=by
 have k:=qCa k
 unfold wj at k⊢
 split at k
 ·rename_i x h' d
  rw[(YD d hi i).1]
  exact⟨h',rfl,k⟩
 ·rename_i d
  split at k
  ·rename_i c j
   have b:zW P T (h.set id ob) o.op=none:=by
    rw[j] at d⊢
    split at k
    ·rename_i f aZ a
     obtain⟨callee,args,q⟩:=c
     unfold yf at a
     split at a
     ·rename_i X e;simp only at e;subst e;rfl
     ·cases a
    ·exact k.elim
   rw[b]
   simp only
   split at k
   ·rename_i f aZ a
    exact(vPa k hi i).mono λr h'' ⟨h',s,⟨l,m,p⟩,_⟩=>⟨h',s,l,m,p⟩
   ·exact k.elim
  ·exact k.elim
theorem VG(b:qza ops x y=true):(∀d,x.dst=some d->kD ops y d=false/\y.dst≠some d)/\(∀d,y.dst=some d->kD ops x d=false/\x.dst≠some d):=by
 simp only[qza,zj] at b
 have c:∀d,x.dst=some d->kD ops y d=false/\y.dst≠some d:=λd a=>by
  have:=b.1
  rw[a] at this
  simpa using this
 refine⟨c,λd a=>⟨?_,λe=>(c d e).2 a⟩⟩
 have:=b.2
 rw[a] at this
 simpa using this
theorem W4{l:Nat}{a:Oper}(f:ops[l]? =some a)(e:ops[p.1]? =some x)(b:vi ops l p.1=true):(∀d,x.dst=some d->kD ops a d=false)/\(∀d,x.dst=some d->a.dst≠some d):=by
 unfold vi at b
 rw[f,e] at b
 simp only at b
 refine⟨λd c=>?_,λd c=>?_⟩<;>(rw[c] at b;simp at b)
 ·exact b.1
 ·exact b.2
theorem xsa{d:Nat}{v:AV}(a:x.dst≠some d):qK T x.dst v d=T d:=by
 cases b:x.dst with
 | none=>rfl
 | some e=>simp only[qK,upd];rw[if_neg];intro h;exact a (by rw[b,h])
theorem Q5{l:Nat}{v:AV}(j:ops[p.1]? =some x)(b:vi ops l p.1=true):vI P ops (qK T x.dst v) h l↔vI P ops T h l:=by
 unfold vI
 cases c:ops[l]? with
 | none=>simp
 | some a=>
   simp only
   obtain⟨g,f⟩:=W4 c j b
   cases i:a.dst with
   | none=>simp
   | some d=>
     simp only
     rw[Xo g,xsa λe=>f d e i]
theorem qEa{l id:Nat}{ob:Ob}(k:vI P ops T h l)(hi:h[id]? =some .res)(e:ob.isRes=false):vI P ops T (h.set id ob) l:=by
 unfold vI at*
 cases c:ops[l]? with
 | none=>rw[c] at k;exact k
 | some a=>
   rw[c] at k
   simp only at k⊢
   cases b:a.dst with
   | none=>rw[b] at k;exact k
   | some d=>rw[b] at k;exact QMa k hi e
theorem vW{o:Oper}(a:cls o.op≠3):xZ P ops b q o K T h=kU P ops o (λT h=>jk P ops T h q.2.2/\K T h) T h:=if_neg a
theorem vj{o:Oper}(a:cls o.op=3):xZ P ops b q o K T h=VF P ops (b+q.2.1) o K T h:=if_pos a
theorem km{o:Oper}(c:cls o.op<=1)(a:q.2.2=[]):xZ P ops b q o K T h↔∃x,Zj P ops T h o=some x/\K (qK T o.dst x) h:=by
 rw[vW (by omega),a]
 simp only[jk,true_and]
 exact xra c
theorem vQa{id:Nat}{o:Oper}(k:Qw P id o K T h):Qw P id o (λc b=>K c b/\(∃v,c=qK T o.dst v)/\∀j,j≠id->h[j]? =some .res->b[j]? =some .res) T h:=by
 unfold Qw at*
 split
 ·rename_i ob mk a
  rw[a] at k
  exact⟨k.1,k.2,⟨_,rfl⟩,λj f d=>by rw[zc (λe=>f e.symm)];exact d⟩
 ·rename_i a;rw[a] at k;exact k
theorem xta{o:Oper}(k:xZ P ops b q o K T h)(d:∀e h',(∀j,(cls o.op=3->j≠b+q.2.1)->h[j]? =some .res->h'[j]? =some .res)->K e h'->K' e h'):xZ P ops b q o K' T h:=by
 by_cases c:cls o.op=3
 ·rw[vj c] at k⊢
  refine Qx k (λk=>xoa (vQa k) λg f ⟨k,_,a⟩=>d _ _ (λj i=>a j (i c)) k) (d _ _ λj _ a=>a)
 ·rw[vW c] at k⊢
  exact xG (Zq k) λg f ⟨⟨k1,k2⟩,_,a⟩=>⟨k1,d _ _ (λj _=>a j) k2⟩
def yD(P:Program)(ops:Array Oper)(T:Env)(o:Oper):Option (Option (Ob × (Nat->AV))):=match o.guard with
 | none=>(jp P T o.op).map some
 | some (j,a)=>match (ops[j]?).bind (·.dst) with
   | some d=>match T d with
     | .v (.bool b)=>if b=a then(jp P T o.op).map some else some none
     | .v (.tuple _)=>some none
     | _=>none
   | none=>none
theorem xI{id:Nat}{o:Oper}:VF P ops id o K T h↔match yD P ops T o with
  | some (some (ob,mk))=>h[id]? =some .res/\K (qK T o.dst (mk id)) (h.set id ob)
  | some none=>K (qK T o.dst (.v undef)) h
  | none=>False:=by
 unfold VF xY yD Qw
 cases o.guard with
 | none=>cases jp P T o.op<;>simp
 | some q=>
   obtain⟨j,a⟩:=q
   simp only[]
   cases (ops[j]?).bind (·.dst) with
   | none=>simp
   | some d=>
     simp only[]
     generalize T d=td
     split
     ·rename_i b
      by_cases c:b=a
      ·subst c
       cases jp P T o.op<;>simp
      ·simp[c]
     ·simp
     ·rename_i n1 n2
      split
      ·rename_i heq
       split at heq
       ·exact absurd rfl (n1 _)
       ·cases heq
       ·cases heq
      ·rename_i heq
       split at heq
       ·exact absurd rfl (n1 _)
       ·exact absurd rfl (n2 _)
       ·cases heq
      ·rfl
theorem yCa{o:Oper}{d:Nat}{v:AV}(a:kD ops o d=false):yD P ops (upd T d v) o=yD P ops T o:=by
 unfold kD at a
 rw[zQ] at a
 unfold yD
 cases f:o.guard with
 | none=>simp only[JJ o.op a.1]
 | some q=>
   obtain⟨j,c⟩:=q
   rw[f] at a
   simp only[]
   cases i:(ops[j]?).bind (·.dst) with
   | none=>rfl
   | some e=>
     have b:e≠d:=λh=>by
      have:=a.2
      simp[i,h] at this
     have g:upd T d v e=T e:=by simp[upd,b]
     simp only[g,JJ o.op a.1]
theorem Xp{o z:Oper}{v:AV}(b:∀d,z.dst=some d->kD ops o d=false):yD P ops (qK T z.dst v) o=yD P ops T o:=by
 cases a:z.dst with
 | none=>rfl
 | some d=>exact yCa (b d a)
theorem vRa{o:Oper}{ob:Ob}{mk:Nat->AV}(a:yD P ops T o=some (some (ob,mk))):ob.isRes=false:=by
 have key:(jp P T o.op).map some=some (some (ob,mk))->ob.isRes=false:=λh=>by
  cases b:jp P T o.op with
  | none=>rw[b] at h;cases h
  | some q=>rw[b] at h;injection h with h;injection h with h;subst h;exact qwa b
 unfold yD at a
 split at a
 ·exact key a
 ·split at a
  ·split at a
   ·split at a
    ·exact key a
    ·injection a with a;cases a
   ·injection a with a;cases a
   ·cases a
  ·cases a
theorem YE{o:Oper}(k:wj P T h o K):∃v h',K (qK T o.dst v) h'/\ResK h h':=by
 unfold wj at k
 split at k
 ·rename_i x h' a;exact⟨x,h',k,(Za (φ:=λ_=> .res) (λ_ _=>rfl) _ a).2⟩
 ·split at k
  ·split at k
   ·obtain⟨_,⟨r,h',k2,k3⟩,_⟩:=k;exact⟨r,h',k2,k3⟩
   ·exact k.elim
  ·exact k.elim
theorem VH{o:Oper}(k:kU P ops o K T h):∃v h',K (qK T o.dst v) h'/\ResK h h':=by
 unfold kU xY at k
 split at k
 ·exact YE k
 ·rename_i j a d
  split at k
  ·split at k
   ·rename_i b _
    by_cases c:b=a
    ·exact YE (k.1 c)
    ·exact⟨_,h,k.2 c,.refl⟩
   ·exact⟨_,h,k,.refl⟩
   ·exact k.elim
  ·exact k.elim
theorem yDa{o:Oper}{id:Nat}{ob:Ob}(k:wj P T h o K)(hi:h[id]? =some .res)(f:ob.isRes=false)(c:∀v h',ResK h h'->K (qK T o.dst v) h'->K' (qK T o.dst v) (h'.set id ob)):wj P T (h.set id ob) o K':=
 Q3 (QOa k hi f) λi g ⟨h',e,a,⟨v,b⟩,d⟩=>by subst e b;exact c v h' d a
section
variable {kk:IntKind} {n n':Int} {v v':AV}
theorem yE(a:n≠n'):∀(es:List (AV × AV)),xV n' (jP kk n v es)=xV n' es
 | []=>by simp[jP,xV,kr,a]
 | e::r=>by
   unfold jP
   split
   ·simp[xV,kr,a]
   ·simp[xV,yE a r]
theorem ww(a:n≠n'):∀(es:List (AV × AV)),xV n' (xb kk n v es)=xV n' es
 | []=>rfl
 | e::r=>by
   unfold xb
   split
   ·rename_i h
    have k1:kr (.v (.int kk n),v)=n:=rfl
    simp[xV,k1,ww a r,h]
   ·simp[xV,ww a r]
theorem kPa(a:n≠n'):∀(es:List (AV × AV)),xb kk n v (xb kk n' v' es)=xb kk n' v' (xb kk n v es)
 | []=>rfl
 | e::r=>by
   have k1:kr (.v (.int kk n),v)=n:=rfl
   have k2:kr (.v (.int kk n'),v')=n':=rfl
   have b:=kPa a r
   by_cases d:kr e=n
   ·simp[xb,d,a,k1,b]
   ·by_cases c:kr e=n'
    ·simp[xb,c,show n'≠n from λe=>a e.symm,k2,b]
    ·simp[xb,d,c,b]
theorem zIa(a:n≠n'):∀(es:List (AV × AV)),xb kk n v (jP kk n' v' es)=jP kk n' v' (xb kk n v es)
 | []=>by
   have k2:kr (.v (.int kk n'),v')=n':=rfl
   simp[xb,jP,k2,show n'≠n from λe=>a e.symm]
 | e::r=>by
   have k1:kr (.v (.int kk n),v)=n:=rfl
   have k2:kr (.v (.int kk n'),v')=n':=rfl
   have d:=zIa a r
   by_cases c:kr e=n
   ·by_cases b:n'<n
    ·simp[xb,jP,c,k1,k2,b,show n'≠n from λe=>a e.symm]
    ·simp[xb,jP,c,k1,b,d]
   ·by_cases b:n'<kr e
    ·simp[xb,jP,c,k2,b,show n'≠n from λe=>a e.symm]
    ·simp[xb,jP,c,b,d]
theorem xua:∀ {es:List (AV × AV)},kK kk (jP kk n v es)=kK kk es:=by
 intro es
 rw[Bool.eq_iff_iff,jZ,jZ]
 constructor
 ·exact λh q a=>h q ((y9 es).mem_iff.2 (by simp[a]))
 ·intro h q a
  rcases zH.1 ((y9 es).mem_iff.1 a) with rfl|a
  ·rfl
  ·exact h q a
theorem xva{es:List (AV × AV)}(h:kK kk es=true):kK kk (xb kk n v es)=true:=by
 rw[jZ] at h⊢
 intro q c
 rw[wu,zx] at c
 obtain⟨d,e,a⟩:=c
 by_cases b:kr d=n
 ·rw[if_pos b] at a;subst a;rfl
 ·rw[if_neg b] at a;subst a;exact h _ e
theorem vSa{es g j:List (AV × AV)}(d:n≠n')(i:Qj kk n v es=some g)(h:Qj kk n' v' g=some j):∃b,Qj kk n' v' es=some b/\Qj kk n v b=some j:=by
 unfold Qj at i
 split at i
 case isFalse=>cases i
 rename_i k
 injection i with i
 have l:kK kk g=true:=by
  unfold Qj at h
  split at h
  ·assumption
  ·cases h
 have f:n'≠n:=λe=>d e.symm
 refine⟨_,by unfold Qj;rw[if_pos k],?_⟩
 unfold Qj at h⊢
 rw[if_pos l] at h
 have m:kK kk (if xV n' es=true then xb kk n' v' es else jP kk n' v' es)=true:=by
  split
  ·exact xva k
  ·rw[xua];exact k
 rw[if_pos m, <-h, <-i]
 congr 1
 by_cases a:xV n es=true<;>by_cases c:xV n' es=true
 ·simp only[a,c,if_true,ww d,ww f,kPa d]
 ·simp only[a,c,if_true,if_false,Bool.false_eq_true,ww d,yE f,zIa d]
 ·simp only[a,c,if_true,if_false,Bool.false_eq_true,yE d,ww f,zIa f]
 ·simp only[a,c,if_false,Bool.false_eq_true,yE d,yE f,Kz d]
end
theorem VI{t:TypeId}{a:Tmp}{kk:IntKind}{n:Int}{v:Operand}{u:AV}{h':List Ob}(b:zW P T h (.insert t (.tmp a) (.const (.int kk n)) v)=some (u,h')):
  ∃ id es es',T a= .mp id/\h[id]? =some (.mapo es)/\Qj kk n (ev T v) es=some es'/\u= .v undef/\h'=h.set id (.mapo es')/\
    ∀e g i f n2,e[id]? =some (.mapo g)->Qj kk n2 (ev T f) g=some i->zW P T e (.insert t (.tmp a) (.const (.int kk n2)) f)=some (.v undef,e.set id (.mapo i)):=by
 simp only[zW,show ev T (.tmp a)=T a from rfl,show ev T (.const (.int kk n))= .v (.int kk n) from rfl] at b
 split at b
 ·rename_i q r id kk' n' m k c
  injection c with c
  injection c with hk1 hk2
  subst hk1 hk2
  split at b
  ·rename_i d es j p
   split at b
   ·rename_i heq
    subst heq
    cases hi:Qj d n (ev T v) es with
    | none=>rw[hi] at b;cases b
    | some es'=>
      rw[hi] at b
      injection b with b;injection b with hx1 hx2;subst hx1 hx2
      refine⟨id,es,es',k,p,hi,rfl,rfl,λe g i f n2 o l=>?_⟩
      simp only[zW,show ev T (.tmp a)=T a from rfl,show ev T (.const (.int d n2))= .v (.int d n2) from rfl,m,k,j,o,if_true,l]
      rfl
   ·cases b
  ·cases b
 ·cases b
theorem yEa(c:zHa x y=true)(ha:qza ops x y=true)(C:p.2.2=[])(G:q.2.2=[])(k:xZ P ops b p x (xZ P ops b q y K) T h):xZ P ops b (q.1,q.2.1,[]) y (xZ P ops b p x K) T h:=by
 obtain⟨s,H⟩:=VG ha
 obtain⟨B,θ,S,xp,Y,R⟩:=x
 obtain⟨g,ζ,yt,yp,ya,O⟩:=y
 unfold zHa at c
 simp only at c
 split at c
 case h_2=>cases c
 rename_i t m k1 n v t' m' k2 n' v'
 simp only[zj,beq_iff_eq,bne_iff_ne,ne_eq] at c
 obtain⟨⟨⟨⟨⟨i,ht⟩,hk⟩,hn⟩,A⟩,j⟩:=c
 subst ht hk
 split at i
 case h_2=>cases i
 rename_i a a'
 have i:a=a':=by simpa using i
 subst i
 have A:R=none:=by cases R<;>simp_all
 have j:O=none:=by cases O<;>simp_all
 subst A j
 have c3:∀z w,cls (.insert t (.tmp a) z w)≠3:=λz w=>by simp[cls]
 have e:∀(q:Ent) (o:Oper) (K:Env->List Ob->Prop) (T:Env) (h:List Ob) (z w:Operand),q.2.2=[]->o.op= .insert t (.tmp a) z w->o.guard=none->(xZ P ops b q o K T h↔∃u h',zW P T h o.op=some (u,h')/\K (qK T o.dst u) h'):=λq o K T h z w X M hg=>by
  rw[vW (by rw[M];exact c3 z w),X]
  simp only[jk,true_and,kU,xY,hg,yya,wj]
  cases he:zW P T h o.op with
  | none=>simp[M]
  | some r=>obtain⟨u,h'⟩:=r;simp only[Option.some.injEq,Prod.mk.injEq];exact⟨λk=>⟨u,h',⟨rfl,rfl⟩,k⟩,λ⟨_,_,⟨E,l⟩,k⟩=>by subst E l;exact k⟩
 rw[e p _ _ T h _ _ C rfl rfl] at k
 obtain⟨u,h1,E,k⟩:=k
 rw[e q _ _ _ h1 _ _ G rfl rfl] at k
 obtain⟨u',h2,l,k⟩:=k
 have hy:∀u h,zW P (qK T B u) h (.insert t (.tmp a) (.const (.int k1 n')) v')=zW P T h (.insert t (.tmp a) (.const (.int k1 n')) v'):=λu h=>by
  cases D:B with
  | none=>rfl
  | some d=>
    have:=(s d D).1
    unfold kD at this
    rw[zQ] at this
    exact wv _ this.1
 have Z:∀u h,zW P (qK T g u) h (.insert t (.tmp a) (.const (.int k1 n)) v)=zW P T h (.insert t (.tmp a) (.const (.int k1 n)) v):=λu h=>by
  cases D:g with
  | none=>rfl
  | some d=>
    have:=(H d D).1
    unfold kD at this
    rw[zQ] at this
    exact wv _ this.1
 simp only at E l
 rw[hy] at l
 obtain⟨id,es,φ,m1,L,W,m4,m5,N⟩:=VI E
 obtain⟨id',es',J,F,f,o3,o4,U,o6⟩:=VI l
 rw[m1] at F
 injection F with F
 subst F m4 o4 m5
 rw[zm (kX L)] at f
 injection f with f
 injection f with f
 subst f
 obtain⟨Q,i1,V⟩:=vSa hn W o3
 rw[e (q.1,q.2.1,[]) _ _ T h _ _ rfl rfl rfl]
 refine⟨.v undef,_,N h es Q v' n' L i1,?_⟩
 rw[e p _ _ _ _ _ _ C rfl rfl]
 simp only
 rw[Z]
 refine⟨.v undef,_,N _ Q J v n (by rw[zm (kX L)]) V,?_⟩
 rw[qh]
 subst U
 rw[qh] at k
 have I:qK (qK T B (.v undef)) g (.v undef)=qK (qK T g (.v undef)) B (.v undef):=Vc (x:=⟨B,.insert t (.tmp a) (.const (.int k1 n)) v,S,xp,Y,none⟩) (y:=⟨g,.insert t (.tmp a) (.const (.int k1 n')) v',yt,yp,ya,none⟩) λd D=>(s d D).2
 simp only at k
 rw[I] at k
 exact k
theorem zJa{op:Op}{mk:Nat->AV}{ob:Ob}(b:jp P T op=some (ob,mk))(a:qAa op=true):∀es,ob≠ .mapo es:=by
 intro es e
 subst e
 cases op<;>simp only[qAa] at a<;>first
  | cases a;done
  | skip
 all_goals
  simp only[jp] at b
  repeat' split at b
 all_goals first
  | cases b;done
  | (simp only[Option.map_eq_some_iff,Prod.mk.injEq] at b;obtain⟨_,_,h,_⟩:=b;cases h;done)
theorem xwa{o:Oper}{ob:Ob}{mk:Nat->AV}(a:yD P ops T o=some (some (ob,mk)))(c:qAa o.op=true):∀es,ob≠ .mapo es:=by
 have key:(jp P T o.op).map some=some (some (ob,mk))->∀es,ob≠ .mapo es:=λh=>by
  cases b:jp P T o.op with
  | none=>rw[b] at h;cases h
  | some q=>rw[b] at h;injection h with h;injection h with h;subst h;exact zJa b c
 unfold yD at a
 split at a
 ·exact key a
 ·split at a
  ·split at a
   ·split at a
    ·exact key a
    ·injection a with a;cases a
   ·injection a with a;cases a
   ·cases a
  ·cases a
theorem vTa{id:Nat}{ob:Ob}{t:TypeId}{m k v:Operand}{u:AV}{j:List Ob}(f:∀es,ob≠ .mapo es)(a:zW P T (h.set id ob) (.insert t m k v)=some (u,j))(hi:h[id]? =some .res):
  ∃h',zW P T h (.insert t m k v)=some (u,h')/\j=h'.set id ob/\h'[id]? =some .res:=by
 simp only[zW] at a⊢
 split at a
 ·rename_i q p g kk n o r l
  split at a
  ·rename_i kk' es i d
   have b:id≠g:=λe=>by
    subst e
    rw[zm (zd.1 hi).1] at d
    injection d with d
    exact f es d
   rw[zc b] at d
   split at a
   ·rename_i heq
    simp only[i,d,if_pos heq]
    cases c:Qj kk' n (ev T v) es with
    | none=>subst heq;rw[c] at a;cases a
    | some es'=>
      subst heq
      rw[c] at a
      injection a with a;injection a with hx1 hx2;subst hx1 hx2
      refine⟨_,by rw[c];rfl,by rw[List.set_comm _ _ b],by rw[zc (λe=>b e.symm)];exact hi⟩
   ·cases a
  ·cases a
 ·cases a
theorem xxa(i:yBa x y=true)(U:qza ops x y=true)(V:p.2.2=[])(j:q.2.2=[])(k:xZ P ops b p x (xZ P ops b q y K) T h):xZ P ops b (q.1,q.2.1,[]) y (xZ P ops b p x K) T h:=by
 obtain⟨o,B⟩:=VG U
 simp only[yBa,zj] at i
 obtain⟨⟨A,I⟩,C⟩:=i
 have g:cls x.op=3:=by
  generalize x.op=op at A
  cases op<;>simp only[qAa] at A<;>first
   | rfl
   | cases A
 obtain⟨e,G,F,E,H,J⟩:=y
 simp only at I C
 have C:J=none:=by cases J<;>simp_all
 subst C
 cases G<;>simp only[Xpa] at I<;>first
  | cases I;done
  | skip
 rename_i t m kk v
 have D:cls (.insert t m kk v)≠3:=by simp[cls]
 have a:∀(q:Ent) (K:Env->List Ob->Prop) (T:Env) (h:List Ob),q.2.2=[]->(xZ P ops b q ⟨e,.insert t m kk v,F,E,H,none⟩ K T h↔∃u h',zW P T h (.insert t m kk v)=some (u,h')/\K (qK T e u) h'):=λq K T h N=>by
  rw[vW D,N]
  simp only[jk,true_and,kU,xY,yya,wj]
  cases W:zW P T h (.insert t m kk v) with
  | none=>simp
  | some r=>obtain⟨u,h'⟩:=r;simp only[Option.some.injEq,Prod.mk.injEq];exact⟨λk=>⟨u,h',⟨rfl,rfl⟩,k⟩,λ⟨_,_,⟨f,O⟩,k⟩=>by subst f O;exact k⟩
 have c:∀w h,zW P (qK T x.dst w) h (.insert t m kk v)=zW P T h (.insert t m kk v):=λw h=>by
  cases s:x.dst with
  | none=>rfl
  | some d=>
    have:=(o d s).1
    unfold kD at this
    rw[zQ] at this
    exact wv _ this.1
 have n:∀u w,qK (qK T x.dst u) e w=qK (qK T e w) x.dst u:=λu w=>Vc (y:=⟨e,.insert t m kk v,F,E,H,none⟩) λd s=>(o d s).2
 have l:∀w,yD P ops (qK T e w) x=yD P ops T x:=λw=>Xp (z:=⟨e,.insert t m kk v,F,E,H,none⟩) λd s=>(B d s).1
 rw[vj g,xI] at k
 rw[a _ _ T h rfl]
 cases hex:yD P ops T x with
 | none=>rw[hex] at k;exact k.elim
 | some ex=>
   rw[hex] at k
   cases ex with
   | none=>
     simp only at k
     rw[a _ _ _ _ j] at k
     obtain⟨u,h',f,k⟩:=k
     rw[c] at f
     refine⟨u,h',f,?_⟩
     rw[vj g,xI,l,hex]
     simp only
     rw[<-n]
     exact k
   | some S=>
     obtain⟨ob,mk⟩:=S
     simp only at k
     obtain⟨k1,k2⟩:=k
     rw[a _ _ _ _ j] at k2
     obtain⟨u,h',f,k2⟩:=k2
     rw[c] at f
     obtain⟨Q,R,M,L⟩:=vTa (xwa hex A) f k1
     refine⟨u,Q,R,?_⟩
     rw[vj g,xI,l,hex]
     simp only
     rw[<-n]
     subst M
     exact⟨L,k2⟩
theorem Vaa{l2:List Nat}(H:ops[p.1]? =some x)(hs:ZN ops p q x y=true)(hp:cls x.op≠2->p.2.2=[])(hq:cls y.op≠2->q.2.2=[])(Y:ops[q.1]? =some y)
  (t:∀l∈l2,l∈q.2.2/\vi ops l p.1=true) (U:∀l∈p.2.2,vi ops l q.1=true) (ν:∀l,l∈q.2.2->l∉l2->l=p.1)
  (hr:cls y.op=3->h[b+q.2.1]? =some .res) (κ:cls x.op=3->cls y.op=3->p.2.1≠q.2.1) (N:p.1∈q.2.2->∀d,x.dst=some d->kD ops x d=false)
  (k:xZ P ops b p x (xZ P ops b q y K) T h):xZ P ops b (q.1,q.2.1,l2) y (xZ P ops b p x K) T h:=by
 simp only[ZN,zj,Bool.or_eq_true,beq_iff_eq,bne_iff_ne,ne_eq,decide_eq_true_eq] at hs
 obtain⟨ha,hs⟩:=hs
 obtain⟨z,B⟩:=VG ha
 have M:cls y.op=3->xZ P ops b (q.1,q.2.1,l2) y (xZ P ops b p x K) T h:=λZ=>by
  have hi:=hr Z
  rw[vj Z,xI]
  have j:∀v h',xZ P ops b q y K (qK T x.dst v) h'↔match yD P ops T y with
    | some (some (ob,mk))=>h'[b+q.2.1]? =some .res/\K (qK (qK T x.dst v) y.dst (mk (b+q.2.1))) (h'.set (b+q.2.1) ob)
    | some none=>K (qK (qK T x.dst v) y.dst (.v undef)) h'
    | none=>False:=λv h'=>by
   rw[vj Z,xI,Xp (λd c=>(z d c).1)]
  have J:∀u v,qK (qK T x.dst u) y.dst v=qK (qK T y.dst v) x.dst u:=λu v=>Vc λd c=>(z d c).2
  have F:∀d,y.dst=some d->kD ops x d=false:=λd c=>(B d c).1
  by_cases G:cls x.op=3
  ·rw[vj G,xI] at k
   have I:yD P ops (qK T y.dst (.v undef)) x=yD P ops T x/\∀v,yD P ops (qK T y.dst v) x=yD P ops T x:=⟨Xp F,λv=>Xp F⟩
   cases hex:yD P ops T x with
   | none=>rw[hex] at k;exact k.elim
   | some ex=>
     rw[hex] at k
     have L:b+p.2.1≠b+q.2.1:=λe=>κ G Z (by omega)
     cases ex with
     | none=>
       simp only at k
       rw[j] at k
       cases i:yD P ops T y with
       | none=>rw[i] at k;exact k.elim
       | some X=>cases X with
         | none=>simp only[i] at k ⊢;rw[vj G,xI,I.2,hex];simp only;rw[<-J];exact k
         | some S=>obtain⟨ob,mk⟩:=S;simp only[i] at k ⊢;refine⟨hi,?_⟩;rw[vj G,xI,I.2,hex];simp only;rw[<-J];exact k.2
     | some ox=>
       obtain⟨ox,mx⟩:=ox
       simp only at k
       obtain⟨k1,k2⟩:=k
       rw[j] at k2
       cases i:yD P ops T y with
       | none=>rw[i] at k2;exact k2.elim
       | some X=>cases X with
         | none=>simp only[i] at k2 ⊢;rw[vj G,xI,I.2,hex];simp only;rw[<-J];exact⟨k1,k2⟩
         | some S=>
           obtain⟨ob,mk⟩:=S
           simp only[i] at k2⊢
           refine⟨hi,?_⟩
           rw[vj G,xI,I.2,hex]
           simp only
           rw[<-J,zc (λe=>L e.symm),List.set_comm _ _ (λe=>L e.symm)]
           exact⟨k1,k2.2⟩
  ·rw[vW G] at k
   obtain⟨v0,h0,k0,_⟩:=VH k
   have k0:=(j v0 h0).1 k0.2
   cases i:yD P ops T y with
   | none=>rw[i] at k0;exact k0.elim
   | some X=>cases X with
     | none=>
       simp only
       rw[vW G]
       have:kU P ops x (λg a=>jk P ops g a p.2.2/\K (qK g y.dst (.v undef)) a) T h:=xG (Zq k) λg a ⟨⟨f,m⟩,⟨v,e⟩,_⟩=>by
        subst e
        refine⟨f,?_⟩
        have:=(j v a).1 m
        rw[i] at this
        exact this
       have δ:kU P ops x (λg a=>jk P ops g a p.2.2/\K g a) (qK T y.dst (.v undef)) h:=by
        cases c:y.dst with
        | none=>
          rw[c] at this
          exact this
        | some d=>
          rw[c] at this
          show kU P ops x _ (upd T d (.v undef)) h
          rw[Q4 (B d c).1 (B d c).2]
          refine xG this λg a ⟨f,m⟩=>⟨?_,m⟩
          rw[jF] at f⊢
          intro l s
          have:=(Q5 (P:=P) (T:=g) (h:=a) (v:= .v undef) (p:=q) Y (U l s)).2 (f l s)
          rw[c] at this
          exact this
       exact δ
     | some S=>
       obtain⟨ob,mk⟩:=S
       simp only
       refine⟨hi,?_⟩
       have Q:=vRa i
       rw[vW G]
       have key:kU P ops x (λg a=>jk P ops g a p.2.2/\K (qK g y.dst (mk (b+q.2.1))) a) T (h.set (b+q.2.1) ob):=by
        refine zGa k (λk=>yDa k hi Q λv h' ζ ⟨f,m⟩=>?_) λ⟨f,m⟩=>?_
        ·have m:=(j v h').1 m
         rw[i] at m
         refine⟨?_,m.2⟩
         rw[jF] at f⊢
         exact λl s=>qEa (f l s) (ζ _ hi) Q
        ·have m:=(j _ h).1 m
         rw[i] at m
         refine⟨?_,m.2⟩
         rw[jF] at f⊢
         exact λl s=>qEa (f l s) hi Q
       cases c:y.dst with
       | none=>rw[c] at key;exact key
       | some d=>
         rw[c] at key
         show kU P ops x _ (upd T d (mk (b+q.2.1))) (h.set (b+q.2.1) ob)
         rw[Q4 (B d c).1 (B d c).2]
         refine xG key λg a ⟨f,m⟩=>⟨?_,m⟩
         rw[jF] at f⊢
         intro l s
         have:=(Q5 (P:=P) (T:=g) (h:=a) (v:=mk (b+q.2.1)) (p:=q) Y (U l s)).2 (f l s)
         rw[c] at this
         exact this
 rcases hs with(((((⟨ι,O⟩|⟨γ,W⟩)|O)|⟨⟨γ,σ⟩,A⟩)|⟨⟨E,C⟩,n⟩)|⟨⟨E,C⟩,n⟩)
 ·
  have w:=hp (by omega)
  rw[km (by omega) w] at k
  obtain⟨D,h1,a⟩:=k
  rw[vW O] at a⊢
  have R:kU P ops y (λg a=>jk P ops g a l2/\K (qK g x.dst D) a) T h:=by
   cases c:x.dst with
   | none=>rw[c] at a;exact xG a λg a ⟨f,m⟩=>⟨by rw[jF] at f ⊢;exact λl s=>f l (t l s).1,m⟩
   | some d=>
     rw[c] at a
     have a:kU P ops y _ (upd T d D) h:=a
     rw[Q4 (z d c).1 (z d c).2] at a
     refine xG a λg a ⟨f,m⟩=>⟨?_,m⟩
     rw[jF] at f⊢
     intro l s
     have:=f l (t l s).1
     refine(Q5 (P:=P) (T:=g) (h:=a) (v:=D) H (t l s).2).1 ?_
     rw[c];exact this
  refine xG (Zq R) λg a ⟨⟨f,m⟩,⟨v,e⟩,_⟩=>⟨f,?_⟩
  subst e
  refine(km (by omega) w).2 ⟨D,?_,m⟩
  rw[Xo λd c=>(B d c).1,vOa ι a h]
  exact h1
 ·have w:=hp (by omega)
  have V:=hq (by omega)
  have o:l2=[]:=by
   cases l2 with
   | nil=>rfl
   | cons l r=>have:=(t l (by simp)).1;rw[V] at this;cases this
  subst o
  rw[km (by omega) w] at k
  obtain⟨D,h1,a⟩:=k
  rw[km W V] at a
  obtain⟨vy,R,h4⟩:=a
  rw[Xo λd c=>(z d c).1] at R
  refine(km (q:=(q.1,q.2.1,[])) W rfl).2 ⟨vy,R,(km (by omega) w).2 ⟨D,?_,?_⟩⟩
  ·rw[Xo λd c=>(B d c).1];exact h1
  ·rw[<-Vc λd c=>(z d c).2];exact h4
 ·exact M O
 ·
  have w:=hp (by omega)
  rw[km (by omega) w] at k
  obtain⟨D,h1,a⟩:=k
  rw[vW (by omega)] at a⊢
  have A:p.1∈q.2.2:=by simpa using A
  have R:kU P ops y (λg a=>(jk P ops g a l2/\Zj P ops g a x=some D)/\K (qK g x.dst D) a) T h:=by
   have ε:∃d,x.dst=some d:=by
    obtain⟨v0,h0,⟨f,_⟩,_⟩:=VH a
    rw[jF] at f
    have:=f p.1 A
    unfold vI at this
    rw[H] at this
    simp only at this
    cases c:x.dst with
    | none=>rw[c] at this;exact this.elim
    | some d=>exact⟨d,rfl⟩
   obtain⟨d,c⟩:=ε
   rw[c] at a⊢
   have a:kU P ops y _ (upd T d D) h:=a
   rw[Q4 (z d c).1 (z d c).2] at a
   refine xG (Zq a) λg a ⟨⟨f,m⟩,⟨v,e⟩,_⟩=>⟨⟨?_,?_⟩,m⟩
   ·rw[jF] at f⊢
    intro l s
    have:=f l (t l s).1
    refine(Q5 (P:=P) (T:=g) (h:=a) (v:=D) H (t l s).2).1 ?_
    rw[c];exact this
   ·rw[jF] at f
    have:=f p.1 A
    unfold vI at this
    rw[H] at this
    simp only[c] at this
    rw[qBa (N A d c)] at this
    rw[this];simp[upd]
  refine xG (Zq R) λg a ⟨⟨⟨f,q0⟩,m⟩,⟨v,e⟩,_⟩=>⟨f,?_⟩
  exact(km (by omega) w).2 ⟨D,q0,m⟩
 ·
  have C:p.2.2=[]:=by simpa using C
  have n:q.2.2=[]:=by simpa using n
  have o:l2=[]:=by
   cases l2 with
   | nil=>rfl
   | cons l r=>have:=(t l (by simp)).1;rw[n] at this;cases this
  subst o
  exact yEa E ha C n k
 ·have C:p.2.2=[]:=by simpa using C
  have n:q.2.2=[]:=by simpa using n
  have o:l2=[]:=by
   cases l2 with
   | nil=>rfl
   | cons l r=>have:=(t l (by simp)).1;rw[n] at this;cases this
  subst o
  exact xxa E ha C n k
end
