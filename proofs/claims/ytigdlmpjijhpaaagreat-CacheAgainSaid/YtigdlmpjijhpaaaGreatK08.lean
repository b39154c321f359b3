import Derived.Test.YtigdlmpjijhpaaaGreatKA
import Derived.Test.YtigdlmpjijhpaaaGreatK07
set_option linter.all false
namespace Go.Proofs.YtigdlmpjijhpaaaGreat.Ax
open Go Go.RowKit
abbrev Ent:=Nat × Nat × List Nat
def y9(P:Program)(ops:Array Oper)(T:Env)(h:List Ob)(l:Nat):Prop:=match ops[l]? with
 | some o=>match o.dst with
   | some d=>Qw P ops T h o=some (T d)
   | none=>False
 | none=>False
def jJ(P:Program)(ops:Array Oper)(T:Env)(h:List Ob):List Nat->Prop
 | []=>True
 | l::r=>y9 P ops T h l/\jJ P ops T h r
def kX(P:Program)(ops:Array Oper)(b:Nat)(q:Ent)(o:Oper)(K:Env->List Ob->Prop)(T:Env)(h:List Ob):Prop:=
 if cls o.op=3 then YD P ops (b+q.2.1) o K T h else vQ P ops o (λT h=>jJ P ops T h q.2.2/\K T h) T h
def wpE(P:Program)(ops:Array Oper)(b:Nat)(K:Env->List Ob->Prop):List Ent->Env->List Ob->Prop
 | [],T,h=>K T h
 | q::r,T,h=>match ops[q.1]? with
   | some o=>kX P ops b q o (wpE P ops b K r) T h
   | none=>False
def vW(o:Oper):List Nat:=(o.after.toList.filter (Region.binds .any)).map (·.on)
def Qx(ops:Array Oper):Nat->Nat->Nat->Bool
 | 0,j,i=>match ops[i]? with
   | some o=>(vW o).contains j
   | none=>false
 | f+1,j,i=>match ops[i]? with
   | some o=>(vW o).contains j || (vW o).any λk=>decide (j<k) && Qx ops f j k
   | none=>false
def jHa(x y:Oper):Bool:=match x.op,y.op with
 | .insert t m (.const (.int k n)) _,.insert c d (.const (.int k' n')) _=>(match m,d with
   | .tmp a,.tmp b=>a==b
   | _,_=>false) && t==c && k==k' && n != n' && x.guard.isNone && y.guard.isNone
 | _,_=>false
def xPa:Op->Bool
 | .alloc .. | .box .. | .buildSlice .. | .makeSlice .. =>true
 | _=>false
def YBa:Op->Bool
 | .insert .. =>true
 | _=>false
def JXa(x y:Oper):Bool:=xPa x.op && YBa y.op && y.guard.isNone
def wi(ops:Array Oper)(l p:Nat):Bool:=match ops[l]?,ops[p]? with
 | some a,some b=>match b.dst with
   | some d=> !vz ops a d && a.dst != some d
   | none=>true
 | _,_=>false
def Q1(ops:Array Oper)(p q:Ent)(x y:Oper):Bool:=xOa ops x y &&
 ((cls x.op==0 && cls y.op != 3) || (cls x.op==1 && decide (cls y.op<=1)) || cls y.op==3 || (cls x.op==1 && cls y.op==2 && q.2.2.contains p.1) || (jHa x y && p.2.2.isEmpty && q.2.2.isEmpty) || (JXa x y && p.2.2.isEmpty && q.2.2.isEmpty))
def yO(ops:Array Oper)(p q:Ent):Bool:=match ops[p.1]?,ops[q.1]? with
 | some x,some y=>(Qx ops 8 p.1 q.1 || Q1 ops p q x y) && !Qx ops 8 q.1 p.1 && !p.2.2.contains q.1 && (cls x.op != 3 || cls y.op != 3 || p.2.1 != q.2.1)
 | _,_=>false
def KT(ops:Array Oper):List Ent->Bool
 | []=>true
 | x::r=>r.all (yO ops x) && KT ops r
def Qk(ops:Array Oper):Nat->List Oper->Bool
 | _,[]=>true
 | i,o::r=>(vW o).all (λj=>decide (j<i)) && Qk ops (i+1) r
def Z8(ops:Array Oper)(l:Nat):Bool:=(match ops[l]? with
 | some o=>decide (cls o.op<=1) && (match o.dst with
   | some d=> !vz ops o d
   | none=>false)
 | none=>false) && (List.range ops.size).all λp=>p==l || Qx ops 8 p l || wi ops l p
def yra(ops:Array Oper)(k:Nat)(q:Ent):Bool:=match ops[q.1]? with
 | some o=>(cls o.op==2 || q.2.2.isEmpty) && (cls o.op != 3 || decide (q.2.1<k)) && !q.2.2.contains q.1 && q.2.2.all (Z8 ops)
 | none=>false
def YE(ops:Array Oper)(k:Nat)(a:List Ent):Bool:=
 KT ops a && Qk ops 0 ops.toList && a.all (yra ops k) && (List.range ops.size).all (λi=>(a.map (·.1)).contains i) && decide (a.map (·.1)).Nodup && decide (a.length<=ops.size)
section
variable {P:Program} {N:Nat} {B:Bs} {ops:Array Oper} {T:Env} {h:List Ob} {K K':Env->List Ob->Prop} {b:Nat} {p q:Ent} {x y:Oper}
theorem xE{l:List Nat}:jJ P ops T h l↔∀i∈l,y9 P ops T h i:=by
 induction l with
 | nil=>simp[jJ]
 | cons i l a=>simp[jJ,a]
theorem qAa{o:Oper}(a:cls o.op<=1):yl P T h o K↔∃x,(qh P T h o.op).map (·.1)=some x/\K (jc T o.dst x) h:=by
 unfold yl
 cases d:qh P T h o.op with
 | some q=>
   obtain⟨x,h'⟩:=q
   have:=vPa a d
   subst this
   simp
 | none=>
   simp only[Option.map_none]
   constructor
   ·intro k
    generalize o.op=op at k a d
    cases op<;>first
     | exact k.elim
     | skip
    rename_i c
    obtain⟨callee,args,f⟩:=c
    cases callee with
    | builtin b=>exact k.elim
    | value x=>simp[cls] at a
    | invoke r m=>exact k.elim
   ·rintro ⟨x,e,_⟩;cases e
theorem vQa{o:Oper}(c:cls o.op<=1):vQ P ops o K T h↔∃x,Qw P ops T h o=some x/\K (jc T o.dst x) h:=by
 unfold vQ kW Qw JUa
 cases o.guard with
 | none=>exact qAa c
 | some q=>
   obtain⟨j,want⟩:=q
   simp only[]
   cases (ops[j]?).bind (·.dst) with
   | none=>simp
   | some d=>
     simp only[]
     split
     ·rename_i b _
      by_cases a:b=want
      ·subst a
       simp only[true_implies,ne_eq,not_true_eq_false,false_implies,and_true,if_true]
       exact qAa c
      ·simp[a]
     ·simp
     ·simp
theorem ZJa{op:Op}(a:cls op=0)(h h':List Ob):(qh P T h op).map (·.1)=(qh P T h' op).map (·.1):=by
 cases op<;>simp only[cls] at a<;>try (omega;done)
 case binOp op t y z u=>
  have g:¬ Xr z=true:=λh=>by rw[if_pos h] at a;omega
  simp only[qh,if_neg g]
  simp[Option.map_map,Function.comp_def]
 case build t ps=>
  simp only[qh]
  repeat' split
  all_goals first|rfl|skip
  all_goals
   cases (zQ P t).zero with
   | none=>rfl
   | some z=>simp only[Option.bind_some];simp[Option.map_map,Function.comp_def]
 case fieldAddr t y i=>
  simp only[qh]
  split
  ·rename_i d _
   cases d[i]? with
   | none=>rfl
   | some f=>
     simp only[Option.bind_some]
     split
     ·split<;>rfl
     ·rfl
  ·rfl
 case field t y i=>
  simp only[qh]
  split
  ·rename_i d _ _ _
   cases d[i]? with
   | none=>rfl
   | some f=>
     simp only[Option.bind_some]
     split
     ·simp[Option.map_map,Function.comp_def]
     ·rfl
  ·rfl
 case call c=>
  obtain⟨callee,args,e⟩:=c
  cases callee with
  | builtin b=>
    cases b<;>simp at a
    ·simp only[qh,Qu]
     split<;>simp_all [Function.comp_def]
    ·simp only[qh,Qu]
     split<;>simp_all [Function.comp_def]
  | value x=>simp at a
  | invoke r m=>simp at a
 all_goals
  simp only[qh]
  repeat' split
 all_goals first|rfl|simp[Option.map_map,Function.comp_def]
theorem ZKa{o:Oper}(a:cls o.op=0)(h h':List Ob):Qw P ops T h o=Qw P ops T h' o:=by
 unfold Qw
 rw[ZJa a h h']
theorem xQa{o:Oper}{d:Nat}{x:AV}(a:vz ops o d=false):Qw P ops (upd T d x) h o=Qw P ops T h o:=by
 unfold vz at a
 rw[zY] at a
 unfold Qw
 cases f:o.guard with
 | none=>simp only[yw o.op a.1]
 | some q=>
   obtain⟨j,want⟩:=q
   rw[f] at a
   simp only[]
   cases c:(ops[j]?).bind (·.dst) with
   | none=>rfl
   | some e=>
     have b:e≠d:=λh=>by
      have:=a.2
      simp[c,h] at this
     have g:upd T d x e=T e:=by simp[upd,b]
     simp only[g,yw o.op a.1]
theorem KU{o y:Oper}{v:AV}(b:∀d,y.dst=some d->vz ops o d=false):Qw P ops (jc T y.dst v) h o=Qw P ops T h o:=by
 cases a:y.dst with
 | none=>rfl
 | some d=>exact xQa (b d a)
theorem W5{x y:Oper}{u v:AV}(a:∀d,x.dst=some d->y.dst≠some d):jc (jc T x.dst u) y.dst v=jc (jc T y.dst v) x.dst u:=by
 cases b:x.dst with
 | none=>rfl
 | some d=>
   have:=a d b
   exact KS (T:=T) (x:=u) (y:=v) this
theorem xRa{o:Oper}(k:yl P T h o K):yl P T h o λd f=>K d f/\(∃v,d=jc T o.dst v)/\ResK h f:=by
 unfold yl at*
 split
 ·rename_i x h' a
  rw[a] at k
  exact⟨k,⟨x,rfl⟩,(Z5 (φ:=λ_=> .res) (λ_ _=>rfl) _ a).2⟩
 ·rename_i a
  rw[a] at k
  clear a
  generalize o.op=op at k⊢
  cases op<;>first
   | exact k.elim
   | skip
  rename_i c
  simp only at k⊢
  cases i:Zn T c with
  | none=>rw[i] at k;exact k.elim
  | some q=>
    rw[i] at k
    obtain⟨k1,⟨r,h',k2,k3⟩,k4⟩:=k
    refine⟨k1,⟨r,h',⟨k2,⟨r,rfl⟩,k3⟩,k3⟩,λφ s B w g vs t j m=>(k4 φ s B w g vs t j m).mono λe w' ⟨v,r,h',g',p,n,b,l⟩=>⟨v,r,h',g',p,⟨n,⟨r,rfl⟩,b⟩,b,l⟩⟩
theorem Qy{o:Oper}(k:vQ P ops o K T h):vQ P ops o (λa b=>K a b/\(∃v,a=jc T o.dst v)/\ResK h b) T h:=
 JS k xRa λk=>⟨k,⟨_,rfl⟩,.refl⟩
theorem xSa{id:Nat}{ob:Ob}(hi:h[id]? =some .res):Upto (λi=>if i=id then ob else .res) h.length:=λi a=>by
 have:=(zd.1 hi).1
 exact if_neg (by omega)
theorem JU{φ:Nat->Ob}{id:Nat}{ob:Ob}(hi:h[id]? =some .res)(b:ob.isRes=false):fill (λi=>if i=id then ob else φ i) h=fill φ (h.set id ob):=by
 apply qX
 intro j
 rw[wT,wT]
 by_cases a:id=j
 ·subst a
  rw[hi,zp (zd.1 hi).1]
  simp only[Option.map_some,KI]
  rw[if_pos (show(Ob.res).isRes=true from rfl),if_pos trivial,if_neg (by rw[b];simp)]
 ·rw[zc a]
  cases h[j]? with
  | none=>rfl
  | some o=>simp[KI,show j≠id from λe=>a e.symm]
theorem Wu{id:Nat}{ob:Ob}(hi:h[id]? =some .res)(a:ob.isRes=false):fill (λi=>if i=id then ob else .res) h=h.set id ob:=by
 rw[JU (φ:=λ_=> .res) hi a,qqa]
theorem qBa{id:Nat}{ob:Ob}{op:Op}{x:AV}{h':List Ob}(d:qh P T h op=some (x,h'))(hi:h[id]? =some .res)(c:ob.isRes=false):qh P T (h.set id ob) op=some (x,h'.set id ob)/\ResK h h':=by
 obtain⟨b,a⟩:=Z5 (xSa (ob:=ob) hi) op d
 rw[Wu hi c,Wu (a id hi) c] at b
 exact⟨b,a⟩
theorem Vya{o:Oper}{id:Nat}{ob:Ob}{v:AV}(a:Qw P ops T h o=some v)(hi:h[id]? =some .res)(i:ob.isRes=false):Qw P ops T (h.set id ob) o=some v:=by
 have key:∀v,(qh P T h o.op).map (·.1)=some v->(qh P T (h.set id ob) o.op).map (·.1)=some v:=λv b=>by
  cases e:qh P T h o.op with
  | none=>rw[e] at b;cases b
  | some q=>
    obtain⟨y,h'⟩:=q
    rw[e] at b
    rw[(qBa e hi i).1]
    exact b
 unfold Qw at*
 cases g:o.guard with
 | none=>simp only[g] at a ⊢;exact key v a
 | some q=>
   obtain⟨j,want⟩:=q
   simp only[g] at a⊢
   cases f:(ops[j]?).bind (·.dst) with
   | none=>simp only[f] at a;cases a
   | some d=>
     simp only[f] at a⊢
     split at a
     ·split at a
      ·rename_i c;rw[if_pos c];exact key v a
      ·rename_i c;rw[if_neg c];exact a
     ·exact a
     ·cases a
theorem Vza{id:Nat}{ob:Ob}{h':List Ob}(k:ResK h h'):ResK (h.set id ob) (h'.set id ob)∨(h.set id ob)[id]? =some .res:=by
 by_cases b:(h.set id ob)[id]? =some .res
 ·exact .inr b
 ·refine .inl λj a=>?_
  by_cases e:id=j
  ·subst e;exact absurd a b
  ·rw[zc e] at a ⊢;exact k j a
theorem ZLa{f:FuncId}{aZ:List AV}{R:AV->List Ob->Prop}{id:Nat}{ob:Ob}(c:ACalls P f aZ h R)(hi:h[id]? =some .res)(a:ob.isRes=false):ACalls P f aZ (h.set id ob) λr h''=>∃h',h''=h'.set id ob/\R r h'/\ResK h h':=by
 have m:=(zd.1 hi).1
 have j:(h.set id ob)[id]? ≠some .res:=λe=>by
  rw[zp m] at e;injection e with e;subst e;cases a
 have b:∀h',ResK h h'->ResK (h.set id ob) (h'.set id ob):=λh' k=>by
  rcases Vza (id:=id) (ob:=ob) k with k|k
  ·exact k
  ·exact absurd k j
 obtain⟨u,⟨r,h',C,t⟩,x⟩:=c
 refine⟨u,⟨r,h'.set id ob,⟨h',rfl,C,t⟩,b h' t⟩,λφ z B w g vs q D p=>?_⟩
 have l:Upto (λi=>if i=id then ob else φ i) h.length:=λi n=>by
  have:i≠id:=by omega
  simp only[if_neg this]
  exact z i (by simpa using n)
 rw[<-JU hi a] at q p
 refine(x _ l B w g vs q D p).mono λe w' ⟨v,r,h',g',y,A,d,o,s⟩=>?_
 rw[JU hi a,JU (d id hi) a] at o
 rw[JU (d id hi) a] at s
 exact⟨v,r,h'.set id ob,g',y,⟨h',rfl,A,d⟩,b h' d,o,s⟩
theorem VAa{o:Oper}{id:Nat}{ob:Ob}(k:yl P T h o K)(hi:h[id]? =some .res)(e:ob.isRes=false):yl P T (h.set id ob) o λg p=>∃h',p=h'.set id ob/\K g h'/\(∃v,g=jc T o.dst v)/\ResK h h':=by
 have k:=xRa k
 unfold yl at k⊢
 split at k
 ·rename_i x h' b
  rw[(qBa b hi e).1]
  exact⟨h',rfl,k⟩
 ·rename_i b
  split at k
  ·rename_i c l
   have d:qh P T (h.set id ob) o.op=none:=by
    rw[l] at b⊢
    split at k
    ·rename_i f aZ a
     obtain⟨callee,args,s⟩:=c
     unfold Zn at a
     split at a
     ·rename_i X i;simp only at i;subst i;rfl
     ·cases a
    ·exact k.elim
   rw[d]
   simp only
   split at k
   ·rename_i f aZ a
    exact(ZLa k hi e).mono λr h'' ⟨h',q,⟨n,j,m⟩,_⟩=>⟨h',q,n,j,m⟩
   ·exact k.elim
  ·exact k.elim
theorem YF(b:xOa ops x y=true):(∀d,x.dst=some d->vz ops y d=false/\y.dst≠some d)/\(∀d,y.dst=some d->vz ops x d=false/\x.dst≠some d):=by
 simp only[xOa,zq] at b
 have c:∀d,x.dst=some d->vz ops y d=false/\y.dst≠some d:=λd a=>by
  have:=b.1
  rw[a] at this
  simpa using this
 refine⟨c,λd a=>⟨?_,λe=>(c d e).2 a⟩⟩
 have:=b.2
 rw[a] at this
 simpa using this
theorem qca{l:Nat}{a:Oper}(f:ops[l]? =some a)(e:ops[p.1]? =some x)(b:wi ops l p.1=true):(∀d,x.dst=some d->vz ops a d=false)/\(∀d,x.dst=some d->a.dst≠some d):=by
 unfold wi at b
 rw[f,e] at b
 simp only at b
 refine⟨λd c=>?_,λd c=>?_⟩<;>(rw[c] at b;simp at b)
 ·exact b.1
 ·exact b.2
theorem vRa{d:Nat}{v:AV}(b:x.dst≠some d):jc T x.dst v d=T d:=by
 cases a:x.dst with
 | none=>rfl
 | some e=>simp only[jc,upd];rw[if_neg];intro h;exact b (by rw[a,h])
theorem Xx{l:Nat}{v:AV}(b:ops[p.1]? =some x)(j:wi ops l p.1=true):y9 P ops (jc T x.dst v) h l↔y9 P ops T h l:=by
 unfold y9
 cases c:ops[l]? with
 | none=>simp
 | some a=>
   simp only
   obtain⟨g,i⟩:=qca c b j
   cases f:a.dst with
   | none=>simp
   | some d=>
     simp only
     rw[KU g,vRa λe=>i d e f]
theorem xTa{l id:Nat}{ob:Ob}(k:y9 P ops T h l)(hi:h[id]? =some .res)(e:ob.isRes=false):y9 P ops T (h.set id ob) l:=by
 unfold y9 at*
 cases b:ops[l]? with
 | none=>rw[b] at k;exact k
 | some a=>
   rw[b] at k
   simp only at k⊢
   cases c:a.dst with
   | none=>rw[c] at k;exact k
   | some d=>rw[c] at k;exact Vya k hi e
theorem wX{o:Oper}(a:cls o.op≠3):kX P ops b q o K T h=vQ P ops o (λT h=>jJ P ops T h q.2.2/\K T h) T h:=if_neg a
theorem wj{o:Oper}(a:cls o.op=3):kX P ops b q o K T h=YD P ops (b+q.2.1) o K T h:=if_pos a
theorem vh{o:Oper}(c:cls o.op<=1)(a:q.2.2=[]):kX P ops b q o K T h↔∃x,Qw P ops T h o=some x/\K (jc T o.dst x) h:=by
 rw[wX (by omega),a]
 simp only[jJ,true_and]
 exact vQa c
theorem ZMa{id:Nat}{o:Oper}(k:JR P id o K T h):JR P id o (λb c=>K b c/\(∃v,b=jc T o.dst v)/\∀j,j≠id->h[j]? =some .res->c[j]? =some .res) T h:=by
 unfold JR at*
 split
 ·rename_i ob mk a
  rw[a] at k
  exact⟨k.1,k.2,⟨_,rfl⟩,λj f d=>by rw[zc (λe=>f e.symm)];exact d⟩
 ·rename_i a;rw[a] at k;exact k
theorem vSa{o:Oper}(k:kX P ops b q o K T h)(d:∀e h',(∀j,(cls o.op=3->j≠b+q.2.1)->h[j]? =some .res->h'[j]? =some .res)->K e h'->K' e h'):kX P ops b q o K' T h:=by
 by_cases c:cls o.op=3
 ·rw[wj c] at k⊢
  refine JS k (λk=>vNa (ZMa k) λf i ⟨k,_,a⟩=>d _ _ (λj g=>a j (g c)) k) (d _ _ λj _ a=>a)
 ·rw[wX c] at k⊢
  exact kF (Qy k) λf i ⟨⟨k1,k2⟩,_,a⟩=>⟨k1,d _ _ (λj _=>a j) k2⟩
def ZD(P:Program)(ops:Array Oper)(T:Env)(o:Oper):Option (Option (Ob × (Nat->AV))):=match o.guard with
 | none=>(jG P T o.op).map some
 | some (j,want)=>match (ops[j]?).bind (·.dst) with
   | some d=>match T d with
     | .v (.bool b)=>if b=want then(jG P T o.op).map some else some none
     | .v (.tuple _)=>some none
     | _=>none
   | none=>none
theorem kG{id:Nat}{o:Oper}:YD P ops id o K T h↔match ZD P ops T o with
  | some (some (ob,mk))=>h[id]? =some .res/\K (jc T o.dst (mk id)) (h.set id ob)
  | some none=>K (jc T o.dst (.v undef)) h
  | none=>False:=by
 unfold YD kW ZD JR
 cases o.guard with
 | none=>cases jG P T o.op<;>simp
 | some q=>
   obtain⟨j,want⟩:=q
   simp only[]
   cases (ops[j]?).bind (·.dst) with
   | none=>simp
   | some d=>
     simp only[]
     generalize T d=td
     split
     ·rename_i b
      by_cases a:b=want
      ·subst a
       cases jG P T o.op<;>simp
      ·simp[a]
     ·simp
     ·rename_i n1 n2
      split
      ·rename_i heq
       split at heq
       ·exact absurd rfl (n1 _)
       ·cases heq
       ·cases heq
      ·rename_i heq
       split at heq
       ·exact absurd rfl (n1 _)
       ·exact absurd rfl (n2 _)
       ·cases heq
      ·rfl
theorem JYa{o:Oper}{d:Nat}{v:AV}(a:vz ops o d=false):ZD P ops (upd T d v) o=ZD P ops T o:=by
 unfold vz at a
 rw[zY] at a
 unfold ZD
 cases f:o.guard with
 | none=>simp only[Kg o.op a.1]
 | some q=>
   obtain⟨j,want⟩:=q
   rw[f] at a
   simp only[]
   cases c:(ops[j]?).bind (·.dst) with
   | none=>rfl
   | some e=>
     have b:e≠d:=λh=>by
      have:=a.2
      simp[c,h] at this
     have g:upd T d v e=T e:=by simp[upd,b]
     simp only[g,Kg o.op a.1]
theorem KW{o z:Oper}{v:AV}(b:∀d,z.dst=some d->vz ops o d=false):ZD P ops (jc T z.dst v) o=ZD P ops T o:=by
 cases a:z.dst with
 | none=>rfl
 | some d=>exact JYa (b d a)
theorem ZNa{o:Oper}{ob:Ob}{mk:Nat->AV}(a:ZD P ops T o=some (some (ob,mk))):ob.isRes=false:=by
 have key:(jG P T o.op).map some=some (some (ob,mk))->ob.isRes=false:=λh=>by
  cases b:jG P T o.op with
  | none=>rw[b] at h;cases h
  | some q=>rw[b] at h;injection h with h;injection h with h;subst h;exact xJa b
 unfold ZD at a
 split at a
 ·exact key a
 ·split at a
  ·split at a
   ·split at a
    ·exact key a
    ·injection a with a;cases a
   ·injection a with a;cases a
   ·cases a
  ·cases a
theorem qCa{o:Oper}(k:yl P T h o K):∃v h',K (jc T o.dst v) h'/\ResK h h':=by
 unfold yl at k
 split at k
 ·rename_i x h' a;exact⟨x,h',k,(Z5 (φ:=λ_=> .res) (λ_ _=>rfl) _ a).2⟩
 ·split at k
  ·split at k
   ·obtain⟨_,⟨r,h',k2,k3⟩,_⟩:=k;exact⟨r,h',k2,k3⟩
   ·exact k.elim
  ·exact k.elim
theorem YG{o:Oper}(k:vQ P ops o K T h):∃v h',K (jc T o.dst v) h'/\ResK h h':=by
 unfold vQ kW at k
 split at k
 ·exact qCa k
 ·rename_i j want c
  split at k
  ·split at k
   ·rename_i b _
    by_cases a:b=want
    ·exact qCa (k.1 a)
    ·exact⟨_,h,k.2 a,.refl⟩
   ·exact⟨_,h,k,.refl⟩
   ·exact k.elim
  ·exact k.elim
theorem JZa{o:Oper}{id:Nat}{ob:Ob}(k:yl P T h o K)(hi:h[id]? =some .res)(a:ob.isRes=false)(d:∀v h',ResK h h'->K (jc T o.dst v) h'->K' (jc T o.dst v) (h'.set id ob)):yl P T (h.set id ob) o K':=
 Xv (VAa k hi a) λg i ⟨h',b,e,⟨v,f⟩,c⟩=>by subst b f;exact d v h' c e
section
variable {kk:IntKind} {n n':Int} {v v':AV}
theorem ZE(a:n≠n'):∀(es:List (AV × AV)),kV n' (xk kk n v es)=kV n' es
 | []=>by simp[xk,kV,vn,a]
 | e::r=>by
   unfold xk
   split
   ·simp[kV,vn,a]
   ·simp[kV,ZE a r]
theorem yx(a:n≠n'):∀(es:List (AV × AV)),kV n' (xD kk n v es)=kV n' es
 | []=>rfl
 | e::r=>by
   unfold xD
   split
   ·rename_i h
    have k1:vn (.v (.int kk n),v)=n:=rfl
    simp[kV,k1,yx a r,h]
   ·simp[kV,yx a r]
theorem ysa(a:n≠n'):∀(es:List (AV × AV)),xD kk n v (xD kk n' v' es)=xD kk n' v' (xD kk n v es)
 | []=>rfl
 | e::r=>by
   have k1:vn (.v (.int kk n),v)=n:=rfl
   have k2:vn (.v (.int kk n'),v')=n':=rfl
   have b:=ysa a r
   by_cases c:vn e=n
   ·simp[xD,c,a,k1,b]
   ·by_cases d:vn e=n'
    ·simp[xD,d,show n'≠n from λe=>a e.symm,k2,b]
    ·simp[xD,c,d,b]
theorem jIa(a:n≠n'):∀(es:List (AV × AV)),xD kk n v (xk kk n' v' es)=xk kk n' v' (xD kk n v es)
 | []=>by
   have k2:vn (.v (.int kk n'),v')=n':=rfl
   simp[xD,xk,k2,show n'≠n from λe=>a e.symm]
 | e::r=>by
   have k1:vn (.v (.int kk n),v)=n:=rfl
   have k2:vn (.v (.int kk n'),v')=n':=rfl
   have d:=jIa a r
   by_cases c:vn e=n
   ·by_cases b:n'<n
    ·simp[xD,xk,c,k1,k2,b,show n'≠n from λe=>a e.symm]
    ·simp[xD,xk,c,k1,b,d]
   ·by_cases b:n'<vn e
    ·simp[xD,xk,c,k2,b,show n'≠n from λe=>a e.symm]
    ·simp[xD,xk,c,b,d]
theorem vTa:∀ {es:List (AV × AV)},vG kk (xk kk n v es)=vG kk es:=by
 intro es
 rw[Bool.eq_iff_iff,xy,xy]
 constructor
 ·exact λh q a=>h q ((Z4 es).mem_iff.2 (by simp[a]))
 ·intro h q a
  rcases zx.1 ((Z4 es).mem_iff.1 a) with rfl|a
  ·rfl
  ·exact h q a
theorem vUa{es:List (AV × AV)}(h:vG kk es=true):vG kk (xD kk n v es)=true:=by
 rw[xy] at h⊢
 intro q c
 rw[yv,zr] at c
 obtain⟨d,e,a⟩:=c
 by_cases b:vn d=n
 ·rw[if_pos b] at a;subst a;rfl
 ·rw[if_neg b] at a;subst a;exact h _ e
theorem ZOa{es g j:List (AV × AV)}(f:n≠n')(i:JD kk n v es=some g)(h:JD kk n' v' g=some j):∃b,JD kk n' v' es=some b/\JD kk n v b=some j:=by
 unfold JD at i
 split at i
 case isFalse=>cases i
 rename_i l
 injection i with i
 have m:vG kk g=true:=by
  unfold JD at h
  split at h
  ·assumption
  ·cases h
 have d:n'≠n:=λe=>f e.symm
 refine⟨_,by unfold JD;rw[if_pos l],?_⟩
 unfold JD at h⊢
 rw[if_pos m] at h
 have k:vG kk (if kV n' es=true then xD kk n' v' es else xk kk n' v' es)=true:=by
  split
  ·exact vUa l
  ·rw[vTa];exact l
 rw[if_pos k, <-h, <-i]
 congr 1
 by_cases a:kV n es=true<;>by_cases c:kV n' es=true
 ·simp only[a,c,if_true,yx f,yx d,ysa f]
 ·simp only[a,c,if_true,if_false,Bool.false_eq_true,yx f,ZE d,jIa f]
 ·simp only[a,c,if_true,if_false,Bool.false_eq_true,ZE f,yx d,jIa d]
 ·simp only[a,c,if_false,Bool.false_eq_true,ZE f,ZE d,Wr f]
end
theorem YH{t:TypeId}{a:Tmp}{kk:IntKind}{n:Int}{v:Operand}{u:AV}{h':List Ob}(b:qh P T h (.insert t (.tmp a) (.const (.int kk n)) v)=some (u,h')):
  ∃ id es es',T a= .mp id/\h[id]? =some (.mapo es)/\JD kk n (ev T v) es=some es'/\u= .v undef/\h'=h.set id (.mapo es')/\
    ∀e i f g n2,e[id]? =some (.mapo i)->JD kk n2 (ev T g) i=some f->qh P T e (.insert t (.tmp a) (.const (.int kk n2)) g)=some (.v undef,e.set id (.mapo f)):=by
 simp only[qh,show ev T (.tmp a)=T a from rfl,show ev T (.const (.int kk n))= .v (.int kk n) from rfl] at b
 split at b
 ·rename_i q r id kk' n' o k c
  injection c with c
  injection c with hk1 hk2
  subst hk1 hk2
  split at b
  ·rename_i d es j l
   split at b
   ·rename_i heq
    subst heq
    cases hi:JD d n (ev T v) es with
    | none=>rw[hi] at b;cases b
    | some es'=>
      rw[hi] at b
      injection b with b;injection b with hx1 hx2;subst hx1 hx2
      refine⟨id,es,es',k,l,hi,rfl,rfl,λe i f g n2 p m=>?_⟩
      simp only[qh,show ev T (.tmp a)=T a from rfl,show ev T (.const (.int d n2))= .v (.int d n2) from rfl,o,k,j,p,if_true,m]
      rfl
   ·cases b
  ·cases b
 ·cases b
theorem J0a(c:jHa x y=true)(Y:xOa ops x y=true)(j:p.2.2=[])(H:q.2.2=[])(k:kX P ops b p x (kX P ops b q y K) T h):kX P ops b (q.1,q.2.1,[]) y (kX P ops b p x K) T h:=by
 obtain⟨C,L⟩:=YF Y
 obtain⟨A,ρ,X,xp,xa,Q⟩:=x
 obtain⟨D,U,yt,yp,ya,M⟩:=y
 unfold jHa at c
 simp only at c
 split at c
 case h_2=>cases c
 rename_i t m k1 n v t' m' k2 n' v'
 simp only[zq,beq_iff_eq,bne_iff_ne,ne_eq] at c
 obtain⟨⟨⟨⟨⟨g,ht⟩,hk⟩,hn⟩,s⟩,B⟩:=c
 subst ht hk
 split at g
 case h_2=>cases g
 rename_i a a'
 have g:a=a':=by simpa using g
 subst g
 have s:Q=none:=by cases Q<;>simp_all
 have B:M=none:=by cases M<;>simp_all
 subst s B
 have c3:∀z w,cls (.insert t (.tmp a) z w)≠3:=λz w=>by simp[cls]
 have e:∀(q:Ent) (o:Oper) (K:Env->List Ob->Prop) (T:Env) (h:List Ob) (z w:Operand),q.2.2=[]->o.op= .insert t (.tmp a) z w->o.guard=none->(kX P ops b q o K T h↔∃u h',qh P T h o.op=some (u,h')/\K (jc T o.dst u) h'):=λq o K T h z w Z O hg=>by
  rw[wX (by rw[O];exact c3 z w),Z]
  simp only[jJ,true_and,vQ,kW,hg,JUa,yl]
  cases he:qh P T h o.op with
  | none=>simp[O]
  | some r=>obtain⟨u,h'⟩:=r;simp only[Option.some.injEq,Prod.mk.injEq];exact⟨λk=>⟨u,h',⟨rfl,rfl⟩,k⟩,λ⟨_,_,⟨E,l⟩,k⟩=>by subst E l;exact k⟩
 rw[e p _ _ T h _ _ j rfl rfl] at k
 obtain⟨u,h1,E,k⟩:=k
 rw[e q _ _ _ h1 _ _ H rfl rfl] at k
 obtain⟨u',h2,l,k⟩:=k
 have hy:∀u h,qh P (jc T A u) h (.insert t (.tmp a) (.const (.int k1 n')) v')=qh P T h (.insert t (.tmp a) (.const (.int k1 n')) v'):=λu h=>by
  cases i:A with
  | none=>rfl
  | some d=>
    have:=(C d i).1
    unfold vz at this
    rw[zY] at this
    exact yw _ this.1
 have S:∀u h,qh P (jc T D u) h (.insert t (.tmp a) (.const (.int k1 n)) v)=qh P T h (.insert t (.tmp a) (.const (.int k1 n)) v):=λu h=>by
  cases i:D with
  | none=>rfl
  | some d=>
    have:=(L d i).1
    unfold vz at this
    rw[zY] at this
    exact yw _ this.1
 simp only at E l
 rw[hy] at l
 obtain⟨id,es,σ,m1,J,m3,m4,m5,N⟩:=YH E
 obtain⟨W,es',G,F,f,o3,o4,o5,o6⟩:=YH l
 rw[m1] at F
 injection F with F
 subst F m4 o4 m5
 rw[zp (vS J)] at f
 injection f with f
 injection f with f
 subst f
 obtain⟨R,V,i2⟩:=ZOa hn m3 o3
 rw[e (q.1,q.2.1,[]) _ _ T h _ _ rfl rfl rfl]
 refine⟨.v undef,_,N h es R v' n' J V,?_⟩
 rw[e p _ _ _ _ _ _ j rfl rfl]
 simp only
 rw[S]
 refine⟨.v undef,_,N _ R G v n (by rw[zp (vS J)]) i2,?_⟩
 rw[qd]
 subst o5
 rw[qd] at k
 have I:jc (jc T A (.v undef)) D (.v undef)=jc (jc T D (.v undef)) A (.v undef):=W5 (x:=⟨A,.insert t (.tmp a) (.const (.int k1 n)) v,X,xp,xa,none⟩) (y:=⟨D,.insert t (.tmp a) (.const (.int k1 n')) v',yt,yp,ya,none⟩) λd i=>(C d i).2
 simp only at k
 rw[I] at k
 exact k
theorem jJa{op:Op}{mk:Nat->AV}{ob:Ob}(a:jG P T op=some (ob,mk))(b:xPa op=true):∀es,ob≠ .mapo es:=by
 intro es e
 subst e
 cases op<;>simp only[xPa] at b<;>first
  | cases b;done
  | skip
 all_goals
  simp only[jG] at a
  repeat' split at a
 all_goals first
  | cases a;done
  | (simp only[Option.map_eq_some_iff,Prod.mk.injEq] at a;obtain⟨_,_,h,_⟩:=a;cases h;done)
theorem vVa{o:Oper}{ob:Ob}{mk:Nat->AV}(a:ZD P ops T o=some (some (ob,mk)))(b:xPa o.op=true):∀es,ob≠ .mapo es:=by
 have key:(jG P T o.op).map some=some (some (ob,mk))->∀es,ob≠ .mapo es:=λh=>by
  cases c:jG P T o.op with
  | none=>rw[c] at h;cases h
  | some q=>rw[c] at h;injection h with h;injection h with h;subst h;exact jJa c b
 unfold ZD at a
 split at a
 ·exact key a
 ·split at a
  ·split at a
   ·split at a
    ·exact key a
    ·injection a with a;cases a
   ·injection a with a;cases a
   ·cases a
  ·cases a
theorem ZPa{id:Nat}{ob:Ob}{t:TypeId}{m k v:Operand}{u:AV}{l:List Ob}(g:∀es,ob≠ .mapo es)(a:qh P T (h.set id ob) (.insert t m k v)=some (u,l))(hi:h[id]? =some .res):
  ∃h',qh P T h (.insert t m k v)=some (u,h')/\l=h'.set id ob/\h'[id]? =some .res:=by
 simp only[qh] at a⊢
 split at a
 ·rename_i o p f kk n r q j
  split at a
  ·rename_i kk' es i d
   have c:id≠f:=λe=>by
    subst e
    rw[zp (zd.1 hi).1] at d
    injection d with d
    exact g es d
   rw[zc c] at d
   split at a
   ·rename_i heq
    simp only[i,d,if_pos heq]
    cases b:JD kk' n (ev T v) es with
    | none=>subst heq;rw[b] at a;cases a
    | some es'=>
      subst heq
      rw[b] at a
      injection a with a;injection a with hx1 hx2;subst hx1 hx2
      refine⟨_,by rw[b];rfl,by rw[List.set_comm _ _ c],by rw[zc (λe=>c e.symm)];exact hi⟩
   ·cases a
  ·cases a
 ·cases a
theorem vWa(n:JXa x y=true)(L:xOa ops x y=true)(R:p.2.2=[])(i:q.2.2=[])(k:kX P ops b p x (kX P ops b q y K) T h):kX P ops b (q.1,q.2.1,[]) y (kX P ops b p x K) T h:=by
 obtain⟨s,I⟩:=YF L
 simp only[JXa,zq] at n
 obtain⟨⟨A,H⟩,F⟩:=n
 have e:cls x.op=3:=by
  generalize x.op=op at A
  cases op<;>simp only[xPa] at A<;>first
   | rfl
   | cases A
 obtain⟨g,B,D,E,C,J⟩:=y
 simp only at H F
 have F:J=none:=by cases J<;>simp_all
 subst F
 cases B<;>simp only[YBa] at H<;>first
  | cases H;done
  | skip
 rename_i t m kk v
 have G:cls (.insert t m kk v)≠3:=by simp[cls]
 have a:∀(q:Ent) (K:Env->List Ob->Prop) (T:Env) (h:List Ob),q.2.2=[]->(kX P ops b q ⟨g,.insert t m kk v,D,E,C,none⟩ K T h↔∃u h',qh P T h (.insert t m kk v)=some (u,h')/\K (jc T g u) h'):=λq K T h M=>by
  rw[wX G,M]
  simp only[jJ,true_and,vQ,kW,JUa,yl]
  cases W:qh P T h (.insert t m kk v) with
  | none=>simp
  | some r=>obtain⟨u,h'⟩:=r;simp only[Option.some.injEq,Prod.mk.injEq];exact⟨λk=>⟨u,h',⟨rfl,rfl⟩,k⟩,λ⟨_,_,⟨f,S⟩,k⟩=>by subst f S;exact k⟩
 have c:∀w h,qh P (jc T x.dst w) h (.insert t m kk v)=qh P T h (.insert t m kk v):=λw h=>by
  cases j:x.dst with
  | none=>rfl
  | some d=>
    have:=(s d j).1
    unfold vz at this
    rw[zY] at this
    exact yw _ this.1
 have l:∀u w,jc (jc T x.dst u) g w=jc (jc T g w) x.dst u:=λu w=>W5 (y:=⟨g,.insert t m kk v,D,E,C,none⟩) λd j=>(s d j).2
 have o:∀w,ZD P ops (jc T g w) x=ZD P ops T x:=λw=>KW (z:=⟨g,.insert t m kk v,D,E,C,none⟩) λd j=>(I d j).1
 rw[wj e,kG] at k
 rw[a _ _ T h rfl]
 cases hex:ZD P ops T x with
 | none=>rw[hex] at k;exact k.elim
 | some ex=>
   rw[hex] at k
   cases ex with
   | none=>
     simp only at k
     rw[a _ _ _ _ i] at k
     obtain⟨u,h',f,k⟩:=k
     rw[c] at f
     refine⟨u,h',f,?_⟩
     rw[wj e,kG,o,hex]
     simp only
     rw[<-l]
     exact k
   | some V=>
     obtain⟨ob,mk⟩:=V
     simp only at k
     obtain⟨k1,k2⟩:=k
     rw[a _ _ _ _ i] at k2
     obtain⟨u,h',f,k2⟩:=k2
     rw[c] at f
     obtain⟨Q,O,U,N⟩:=ZPa (vVa hex A) f k1
     refine⟨u,Q,O,?_⟩
     rw[wj e,kG,o,hex]
     simp only
     rw[<-l]
     subst U
     exact⟨N,k2⟩
theorem jgb{l2:List Nat}(I:ops[p.1]? =some x)(Z:Q1 ops p q x y=true)(hp:cls x.op≠2->p.2.2=[])(hq:cls y.op≠2->q.2.2=[])(V:ops[q.1]? =some y)
  (o:∀l∈l2,l∈q.2.2/\wi ops l p.1=true) (W:∀l∈p.2.2,wi ops l q.1=true) (τ:∀l,l∈q.2.2->l∉l2->l=p.1)
  (hr:cls y.op=3->h[b+q.2.1]? =some .res) (γ:cls x.op=3->cls y.op=3->p.2.1≠q.2.1) (O:p.1∈q.2.2->∀d,x.dst=some d->vz ops x d=false)
  (k:kX P ops b p x (kX P ops b q y K) T h):kX P ops b (q.1,q.2.1,l2) y (kX P ops b p x K) T h:=by
 simp only[Q1,zq,Bool.or_eq_true,beq_iff_eq,bne_iff_ne,ne_eq,decide_eq_true_eq] at Z
 obtain⟨ha,Z⟩:=Z
 obtain⟨z,C⟩:=YF ha
 have M:cls y.op=3->kX P ops b (q.1,q.2.1,l2) y (kX P ops b p x K) T h:=λhy=>by
  have hi:=hr hy
  rw[wj hy,kG]
  have g:∀v h',kX P ops b q y K (jc T x.dst v) h'↔match ZD P ops T y with
    | some (some (ob,mk))=>h'[b+q.2.1]? =some .res/\K (jc (jc T x.dst v) y.dst (mk (b+q.2.1))) (h'.set (b+q.2.1) ob)
    | some none=>K (jc (jc T x.dst v) y.dst (.v undef)) h'
    | none=>False:=λv h'=>by
   rw[wj hy,kG,KW (λd c=>(z d c).1)]
  have H:∀u v,jc (jc T x.dst u) y.dst v=jc (jc T y.dst v) x.dst u:=λu v=>W5 λd c=>(z d c).2
  have E:∀d,y.dst=some d->vz ops x d=false:=λd c=>(C d c).1
  by_cases G:cls x.op=3
  ·rw[wj G,kG] at k
   have J:ZD P ops (jc T y.dst (.v undef)) x=ZD P ops T x/\∀v,ZD P ops (jc T y.dst v) x=ZD P ops T x:=⟨KW E,λv=>KW E⟩
   cases hex:ZD P ops T x with
   | none=>rw[hex] at k;exact k.elim
   | some ex=>
     rw[hex] at k
     have L:b+p.2.1≠b+q.2.1:=λe=>γ G hy (by omega)
     cases ex with
     | none=>
       simp only at k
       rw[g] at k
       cases i:ZD P ops T y with
       | none=>rw[i] at k;exact k.elim
       | some Y=>cases Y with
         | none=>simp only[i] at k ⊢;rw[wj G,kG,J.2,hex];simp only;rw[<-H];exact k
         | some X=>obtain⟨ob,mk⟩:=X;simp only[i] at k ⊢;refine⟨hi,?_⟩;rw[wj G,kG,J.2,hex];simp only;rw[<-H];exact k.2
     | some ox=>
       obtain⟨ox,mx⟩:=ox
       simp only at k
       obtain⟨k1,k2⟩:=k
       rw[g] at k2
       cases i:ZD P ops T y with
       | none=>rw[i] at k2;exact k2.elim
       | some Y=>cases Y with
         | none=>simp only[i] at k2 ⊢;rw[wj G,kG,J.2,hex];simp only;rw[<-H];exact⟨k1,k2⟩
         | some X=>
           obtain⟨ob,mk⟩:=X
           simp only[i] at k2⊢
           refine⟨hi,?_⟩
           rw[wj G,kG,J.2,hex]
           simp only
           rw[<-H,zc (λe=>L e.symm),List.set_comm _ _ (λe=>L e.symm)]
           exact⟨k1,k2.2⟩
  ·rw[wX G] at k
   obtain⟨v0,h0,k0,_⟩:=YG k
   have k0:=(g v0 h0).1 k0.2
   cases i:ZD P ops T y with
   | none=>rw[i] at k0;exact k0.elim
   | some Y=>cases Y with
     | none=>
       simp only
       rw[wX G]
       have:vQ P ops x (λj a=>jJ P ops j a p.2.2/\K (jc j y.dst (.v undef)) a) T h:=kF (Qy k) λj a ⟨⟨f,m⟩,⟨v,e⟩,_⟩=>by
        subst e
        refine⟨f,?_⟩
        have:=(g v a).1 m
        rw[i] at this
        exact this
       have ζ:vQ P ops x (λj a=>jJ P ops j a p.2.2/\K j a) (jc T y.dst (.v undef)) h:=by
        cases c:y.dst with
        | none=>
          rw[c] at this
          exact this
        | some d=>
          rw[c] at this
          show vQ P ops x _ (upd T d (.v undef)) h
          rw[Xw (C d c).1 (C d c).2]
          refine kF this λj a ⟨f,m⟩=>⟨?_,m⟩
          rw[xE] at f⊢
          intro l w
          have:=(Xx (P:=P) (T:=j) (h:=a) (v:= .v undef) (p:=q) V (W l w)).2 (f l w)
          rw[c] at this
          exact this
       exact ζ
     | some X=>
       obtain⟨ob,mk⟩:=X
       simp only
       refine⟨hi,?_⟩
       have N:=ZNa i
       rw[wX G]
       have key:vQ P ops x (λj a=>jJ P ops j a p.2.2/\K (jc j y.dst (mk (b+q.2.1))) a) T (h.set (b+q.2.1) ob):=by
        refine jGa k (λk=>JZa k hi N λv h' θ ⟨f,m⟩=>?_) λ⟨f,m⟩=>?_
        ·have m:=(g v h').1 m
         rw[i] at m
         refine⟨?_,m.2⟩
         rw[xE] at f⊢
         exact λl w=>xTa (f l w) (θ _ hi) N
        ·have m:=(g _ h).1 m
         rw[i] at m
         refine⟨?_,m.2⟩
         rw[xE] at f⊢
         exact λl w=>xTa (f l w) hi N
       cases c:y.dst with
       | none=>rw[c] at key;exact key
       | some d=>
         rw[c] at key
         show vQ P ops x _ (upd T d (mk (b+q.2.1))) (h.set (b+q.2.1) ob)
         rw[Xw (C d c).1 (C d c).2]
         refine kF key λj a ⟨f,m⟩=>⟨?_,m⟩
         rw[xE] at f⊢
         intro l w
         have:=(Xx (P:=P) (T:=j) (h:=a) (v:=mk (b+q.2.1)) (p:=q) V (W l w)).2 (f l w)
         rw[c] at this
         exact this
 rcases Z with(((((⟨ε,Q⟩|⟨κ,U⟩)|Q)|⟨⟨κ,σ⟩,A⟩)|⟨⟨F,B⟩,n⟩)|⟨⟨F,B⟩,n⟩)
 ·
  have s:=hp (by omega)
  rw[vh (by omega) s] at k
  obtain⟨D,h1,a⟩:=k
  rw[wX Q] at a⊢
  have R:vQ P ops y (λj a=>jJ P ops j a l2/\K (jc j x.dst D) a) T h:=by
   cases c:x.dst with
   | none=>rw[c] at a;exact kF a λj a ⟨f,m⟩=>⟨by rw[xE] at f ⊢;exact λl w=>f l (o l w).1,m⟩
   | some d=>
     rw[c] at a
     have a:vQ P ops y _ (upd T d D) h:=a
     rw[Xw (z d c).1 (z d c).2] at a
     refine kF a λj a ⟨f,m⟩=>⟨?_,m⟩
     rw[xE] at f⊢
     intro l w
     have:=f l (o l w).1
     refine(Xx (P:=P) (T:=j) (h:=a) (v:=D) I (o l w).2).1 ?_
     rw[c];exact this
  refine kF (Qy R) λj a ⟨⟨f,m⟩,⟨v,e⟩,_⟩=>⟨f,?_⟩
  subst e
  refine(vh (by omega) s).2 ⟨D,?_,m⟩
  rw[KU λd c=>(C d c).1,ZKa ε a h]
  exact h1
 ·have s:=hp (by omega)
  have S:=hq (by omega)
  have t:l2=[]:=by
   cases l2 with
   | nil=>rfl
   | cons l r=>have:=(o l (by simp)).1;rw[S] at this;cases this
  subst t
  rw[vh (by omega) s] at k
  obtain⟨D,h1,a⟩:=k
  rw[vh U S] at a
  obtain⟨vy,R,h4⟩:=a
  rw[KU λd c=>(z d c).1] at R
  refine(vh (q:=(q.1,q.2.1,[])) U rfl).2 ⟨vy,R,(vh (by omega) s).2 ⟨D,?_,?_⟩⟩
  ·rw[KU λd c=>(C d c).1];exact h1
  ·rw[<-W5 λd c=>(z d c).2];exact h4
 ·exact M Q
 ·
  have s:=hp (by omega)
  rw[vh (by omega) s] at k
  obtain⟨D,h1,a⟩:=k
  rw[wX (by omega)] at a⊢
  have A:p.1∈q.2.2:=by simpa using A
  have R:vQ P ops y (λj a=>(jJ P ops j a l2/\Qw P ops j a x=some D)/\K (jc j x.dst D) a) T h:=by
   have η:∃d,x.dst=some d:=by
    obtain⟨v0,h0,⟨f,_⟩,_⟩:=YG a
    rw[xE] at f
    have:=f p.1 A
    unfold y9 at this
    rw[I] at this
    simp only at this
    cases c:x.dst with
    | none=>rw[c] at this;exact this.elim
    | some d=>exact⟨d,rfl⟩
   obtain⟨d,c⟩:=η
   rw[c] at a⊢
   have a:vQ P ops y _ (upd T d D) h:=a
   rw[Xw (z d c).1 (z d c).2] at a
   refine kF (Qy a) λj a ⟨⟨f,m⟩,⟨v,e⟩,_⟩=>⟨⟨?_,?_⟩,m⟩
   ·rw[xE] at f⊢
    intro l w
    have:=f l (o l w).1
    refine(Xx (P:=P) (T:=j) (h:=a) (v:=D) I (o l w).2).1 ?_
    rw[c];exact this
   ·rw[xE] at f
    have:=f p.1 A
    unfold y9 at this
    rw[I] at this
    simp only[c] at this
    rw[xQa (O A d c)] at this
    rw[this];simp[upd]
  refine kF (Qy R) λj a ⟨⟨⟨f,q0⟩,m⟩,⟨v,e⟩,_⟩=>⟨f,?_⟩
  exact(vh (by omega) s).2 ⟨D,q0,m⟩
 ·
  have B:p.2.2=[]:=by simpa using B
  have n:q.2.2=[]:=by simpa using n
  have t:l2=[]:=by
   cases l2 with
   | nil=>rfl
   | cons l r=>have:=(o l (by simp)).1;rw[n] at this;cases this
  subst t
  exact J0a F ha B n k
 ·have B:p.2.2=[]:=by simpa using B
  have n:q.2.2=[]:=by simpa using n
  have t:l2=[]:=by
   cases l2 with
   | nil=>rfl
   | cons l r=>have:=(o l (by simp)).1;rw[n] at this;cases this
  subst t
  exact vWa F ha B n k
end
