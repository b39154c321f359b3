import Derived.Test.YtjeehgkolepogaaGreatK07
set_option linter.all false
namespace Go.Proofs.YtjeehgkolepogaaGreat.Ax
open Go Go.RowKit
abbrev Ent:=Nat × Nat × List Nat
def vL(P:Program)(ops:Array Oper)(T:Env)(h:List Ob)(l:Nat):Prop:=match ops[l]? with
 | some o=>match o.dst with
   | some d=>w9 P ops T h o=some (T d)
   | none=>False
 | none=>False
def jf(P:Program)(ops:Array Oper)(T:Env)(h:List Ob):List Nat->Prop
 | []=>True
 | l::r=>vL P ops T h l/\jf P ops T h r
def xm(P:Program)(ops:Array Oper)(b:Nat)(q:Ent)(o:Oper)(K:Env->List Ob->Prop)(T:Env)(h:List Ob):Prop:=
 if cls o.op=3 then JE P ops (b+q.2.1) o K T h else xM P ops o (λT h=>jf P ops T h q.2.2/\K T h) T h
def wpE(P:Program)(ops:Array Oper)(b:Nat)(K:Env->List Ob->Prop):List Ent->Env->List Ob->Prop
 | [],T,h=>K T h
 | q::r,T,h=>match ops[q.1]? with
   | some o=>xm P ops b q o (wpE P ops b K r) T h
   | none=>False
def vh(o:Oper):List Nat:=(o.after.toList.filter (Region.binds .any)).map (·.on)
def yb(ops:Array Oper):Nat->Nat->Nat->Bool
 | 0,j,i=>match ops[i]? with
   | some o=>(vh o).contains j
   | none=>false
 | f+1,j,i=>match ops[i]? with
   | some o=>(vh o).contains j || (vh o).any λk=>decide (j<k) && yb ops f j k
   | none=>false
def KI(x y:Oper):Bool:=match x.op,y.op with
 | .insert t m (.const (.int k n)) _,.insert d c (.const (.int k' n')) _=>(match m,c with
   | .tmp a,.tmp b=>a==b
   | _,_=>false) && t==d && k==k' && n != n' && x.guard.isNone && y.guard.isNone
 | _,_=>false
def Vz:Op->Bool
 | .alloc .. | .box .. | .buildSlice .. | .makeSlice .. =>true
 | _=>false
def k2a:Op->Bool
 | .insert .. =>true
 | _=>false
def jba(x y:Oper):Bool:=Vz x.op && k2a y.op && y.guard.isNone
def xV(ops:Array Oper)(l p:Nat):Bool:=match ops[l]?,ops[p]? with
 | some a,some b=>match b.dst with
   | some d=> !xz ops a d && a.dst != some d
   | none=>true
 | _,_=>false
def ym(ops:Array Oper)(p q:Ent)(x y:Oper):Bool:=Vy ops x y &&
 ((cls x.op==0 && cls y.op != 3) || (cls x.op==1 && decide (cls y.op<=1)) || cls y.op==3 || (cls x.op==1 && cls y.op==2 && q.2.2.contains p.1) || (KI x y && p.2.2.isEmpty && q.2.2.isEmpty) || (jba x y && p.2.2.isEmpty && q.2.2.isEmpty))
def vz(ops:Array Oper)(p q:Ent):Bool:=match ops[p.1]?,ops[q.1]? with
 | some x,some y=>(yb ops 8 p.1 q.1 || ym ops p q x y) && !yb ops 8 q.1 p.1 && !p.2.2.contains q.1 && (cls x.op != 3 || cls y.op != 3 || p.2.1 != q.2.1)
 | _,_=>false
def Z5(ops:Array Oper):List Ent->Bool
 | []=>true
 | x::r=>r.all (vz ops x) && Z5 ops r
def Qp(ops:Array Oper):Nat->List Oper->Bool
 | _,[]=>true
 | i,o::r=>(vh o).all (λj=>decide (j<i)) && Qp ops (i+1) r
def wG(ops:Array Oper)(l:Nat):Bool:=(match ops[l]? with
 | some o=>decide (cls o.op<=1) && (match o.dst with
   | some d=> !xz ops o d
   | none=>false)
 | none=>false) && (List.range ops.size).all λp=>p==l || yb ops 8 p l || xV ops l p
def YT(ops:Array Oper)(k:Nat)(q:Ent):Bool:=match ops[q.1]? with
 | some o=>(cls o.op==2 || q.2.2.isEmpty) && (cls o.op != 3 || decide (q.2.1<k)) && !q.2.2.contains q.1 && q.2.2.all (wG ops)
 | none=>false
def JF(ops:Array Oper)(k:Nat)(a:List Ent):Bool:=
 Z5 ops a && Qp ops 0 ops.toList && a.all (YT ops k) && (List.range ops.size).all (λi=>(a.map (·.1)).contains i) && decide (a.map (·.1)).Nodup && decide (a.length<=ops.size)
section
variable {P:Program} {N:Nat} {B:Bs} {ops:Array Oper} {T:Env} {h:List Ob} {K K':Env->List Ob->Prop} {b:Nat} {p q:Ent} {x y:Oper}
def jL{l:List Nat}:jf P ops T h l↔∀i∈l,vL P ops T h i:=by
 induction l with
 | nil=>simp[jf]
 | cons i l a=>simp[jf,a]
def XS{o:Oper}(a:cls o.op<=1):vf P T h o K↔∃x,(zO P T h o.op).map (·.1)=some x/\K (qG T o.dst x) h:=by
 unfold vf;cases d:zO P T h o.op with
 | some q=>
   obtain⟨x,h'⟩:=q;have:=WO a d;subst this;simp
 | none=>
   simp only[Option.map_none];constructor
   ·intro k;generalize o.op=op at k a d
    cases op<;>first
     | exact k.elim
     | skip
    rename_i c;obtain⟨callee,args,f⟩:=c;cases callee with
    | builtin b=>exact k.elim
    | value x=>simp[cls] at a
    | invoke r m=>exact k.elim
   ·rintro ⟨x,e,_⟩;cases e
def WP{o:Oper}(c:cls o.op<=1):xM P ops o K T h↔∃x,w9 P ops T h o=some x/\K (qG T o.dst x) h:=by
 unfold xM xl w9 q8a;cases o.guard with
 | none=>exact XS c
 | some q=>
   obtain⟨j,a⟩:=q;simp only[];cases (ops[j]?).bind (·.dst) with
   | none=>simp
   | some d=>
     simp only[];split
     ·rename_i b _;by_cases e:b=a
      ·subst e;simp only[true_implies,ne_eq,not_true_eq_false,false_implies,and_true,if_true];exact XS c
      ·simp[e]
     ·simp
     ·simp
def zHa{op:Op}(a:cls op=0)(h h':List Ob):(zO P T h op).map (·.1)=(zO P T h' op).map (·.1):=by
 cases op<;>simp only[cls] at a<;>try (omega;done)
 case binOp op t y z u=>
  have e:¬ Zb z=true:=λh=>by rw[if_pos h] at a;omega
  simp only[zO,if_neg e];simp[Option.map_map,Function.comp_def]
 case build t ps=>
  simp only[zO]
  repeat' split
  all_goals first|rfl|skip
  all_goals
   cases (zF P t).zero with
   | none=>rfl
   | some z=>simp only[Option.bind_some];simp[Option.map_map,Function.comp_def]
 case fieldAddr t y i=>
  simp only[zO];split
  ·rename_i d _;cases d[i]? with
   | none=>rfl
   | some f=>
     simp only[Option.bind_some];split
     ·split<;>rfl
     ·rfl
  ·rfl
 case field t y i=>
  simp only[zO];split
  ·rename_i d _ _ _;cases d[i]? with
   | none=>rfl
   | some f=>
     simp only[Option.bind_some];split
     ·simp[Option.map_map,Function.comp_def]
     ·rfl
  ·rfl
 case call c=>
  obtain⟨callee,args,g⟩:=c;cases callee with
  | builtin b=>
    cases b<;>simp at a
    ·simp only[zO,wY];split<;>simp_all [Function.comp_def]
    ·simp only[zO,wY];split<;>simp_all [Function.comp_def]
  | value x=>simp at a
  | invoke r m=>simp at a
 all_goals
  simp only[zO]
  repeat' split
 all_goals first|rfl|simp[Option.map_map,Function.comp_def]
def zIa{o:Oper}(a:cls o.op=0)(h h':List Ob):w9 P ops T h o=w9 P ops T h' o:=by
 unfold w9;rw[zHa a h h']
def VA{o:Oper}{d:Nat}{x:AV}(a:xz ops o d=false):w9 P ops (upd T d x) h o=w9 P ops T h o:=by
 unfold xz at a;rw[zU] at a;unfold w9;cases g:o.guard with
 | none=>simp only[vg o.op a.1]
 | some q=>
   obtain⟨j,c⟩:=q;rw[g] at a;simp only[];cases i:(ops[j]?).bind (·.dst) with
   | none=>rfl
   | some e=>
     have b:e≠d:=λh=>by
      have:=a.2;simp[i,h] at this
     have f:upd T d x e=T e:=(by simp[upd,b]);simp only[f,vg o.op a.1]
def Z6{o y:Oper}{v:AV}(b:∀d,y.dst=some d->xz ops o d=false):w9 P ops (qG T y.dst v) h o=w9 P ops T h o:=by
 cases a:y.dst with
 | none=>rfl
 | some d=>exact VA (b d a)
def Jh{x y:Oper}{u v:AV}(a:∀d,x.dst=some d->y.dst≠some d):qG (qG T x.dst u) y.dst v=qG (qG T y.dst v) x.dst u:=by
 cases b:x.dst with
 | none=>rfl
 | some d=>
   have:=a d b;exact Z4 (T:=T) (x:=u) (y:=v) this
def VB{o:Oper}(k:vf P T h o K):vf P T h o λi f=>K i f/\(∃v,i=qG T o.dst v)/\ResK h f:=by
 unfold vf at*
 split
 ·rename_i x h' a;rw[a] at k;exact⟨k,⟨x,rfl⟩,(wE (φ:=λ_=> .res) (λ_ _=>rfl) _ a).2⟩
 ·rename_i a;rw[a] at k;clear a;generalize o.op=op at k⊢
  cases op<;>first
   | exact k.elim
   | skip
  rename_i c;simp only at k⊢;cases d:vS T c with
  | none=>rw[d] at k;exact k.elim
  | some q=>
    rw[d] at k;obtain⟨k1,⟨r,h',k2,k3⟩,k4⟩:=k;refine⟨k1,⟨r,h',⟨k2,⟨r,rfl⟩,k3⟩,k3⟩,λφ s B w g vs j m l=>(k4 φ s B w g vs j m l).mono λe w' ⟨v,r,h',g',p,n,b,t⟩=>⟨v,r,h',g',p,⟨n,⟨r,rfl⟩,b⟩,b,t⟩⟩
def yc{o:Oper}(k:xM P ops o K T h):xM P ops o (λa b=>K a b/\(∃v,a=qG T o.dst v)/\ResK h b) T h:=
 yO k VB λk=>⟨k,⟨_,rfl⟩,.refl⟩
def VC{id:Nat}{ob:Ob}(hi:h[id]? =some .res):Upto (λi=>if i=id then ob else .res) h.length:=λi a=>by
 have:=(zj.1 hi).1;exact if_neg zb
def yP{φ:Nat->Ob}{id:Nat}{ob:Ob}(hi:h[id]? =some .res)(b:ob.isRes=false):fill (λi=>if i=id then ob else φ i) h=fill φ (h.set id ob):=by
 apply qz;intro j;rw[kL,kL];by_cases a:id=j
 ·subst a;rw[hi,zr (zj.1 hi).1];simp only[Option.map_some,ZZ];rw[if_pos (show(Ob.res).isRes=true from rfl),if_pos trivial,if_neg (by rw[b];simp)]
 ·rw[zf a];cases h[j]? with
  | none=>rfl
  | some o=>simp[ZZ,show j≠id from λe=>a e.symm]
def QQ{id:Nat}{ob:Ob}(hi:h[id]? =some .res)(a:ob.isRes=false):fill (λi=>if i=id then ob else .res) h=h.set id ob:=by
 rw[yP (φ:=λ_=> .res) hi a,XI]
def XT{id:Nat}{ob:Ob}{op:Op}{x:AV}{h':List Ob}(d:zO P T h op=some (x,h'))(hi:h[id]? =some .res)(b:ob.isRes=false):zO P T (h.set id ob) op=some (x,h'.set id ob)/\ResK h h':=by
 obtain⟨a,c⟩:=wE (VC (ob:=ob) hi) op d;rw[QQ hi b,QQ (c id hi) b] at a;exact⟨a,c⟩
def x5a{o:Oper}{id:Nat}{ob:Ob}{v:AV}(a:w9 P ops T h o=some v)(hi:h[id]? =some .res)(k:ob.isRes=false):w9 P ops T (h.set id ob) o=some v:=by
 have key:∀v,(zO P T h o.op).map (·.1)=some v->(zO P T (h.set id ob) o.op).map (·.1)=some v:=λv b=>by
  cases e:zO P T h o.op with
  | none=>rw[e] at b;cases b
  | some q=>
    obtain⟨y,h'⟩:=q;rw[e] at b;rw[(XT e hi k).1];exact b
 unfold w9 at*
 cases g:o.guard with
 | none=>simp only[g] at a ⊢;exact key v a
 | some q=>
   obtain⟨j,i⟩:=q;simp only[g] at a⊢;cases f:(ops[j]?).bind (·.dst) with
   | none=>simp only[f] at a;cases a
   | some d=>
     simp only[f] at a⊢;split at a
     ·split at a
      ·rename_i c;rw[if_pos c];exact key v a
      ·rename_i c;rw[if_neg c];exact a
     ·exact a
     ·cases a
def x6a{id:Nat}{ob:Ob}{h':List Ob}(k:ResK h h'):ResK (h.set id ob) (h'.set id ob)∨(h.set id ob)[id]? =some .res:=by
 by_cases b:(h.set id ob)[id]? =some .res
 ·exact .inr b
 ·refine .inl λj a=>?_;by_cases e:id=j
  ·subst e;exact absurd a b
  ·rw[zf e] at a ⊢;exact k j a
def zJa{f:FuncId}{aZ:List AV}{R:AV->List Ob->Prop}{id:Nat}{ob:Ob}(c:ACalls P f aZ h R)(hi:h[id]? =some .res)(a:ob.isRes=false):ACalls P f aZ (h.set id ob) λr h''=>∃h',h''=h'.set id ob/\R r h'/\ResK h h':=by
 have m:=(zj.1 hi).1
 have n:(h.set id ob)[id]? ≠some .res:=λe=>by
  rw[zr m] at e;injection e with e;subst e;cases a
 have b:∀h',ResK h h'->ResK (h.set id ob) (h'.set id ob):=λh' k=>by
  rcases x6a (id:=id) (ob:=ob) k with k|k
  ·exact k
  ·exact absurd k n
 obtain⟨x,⟨r,h',C,p⟩,D⟩:=c;refine⟨x,⟨r,h'.set id ob,⟨h',rfl,C,p⟩,b h' p⟩,λφ A B w g vs s u t=>?_⟩
 have j:Upto (λi=>if i=id then ob else φ i) h.length:=λi l=>by
  have:i≠id:=zb;simp only[if_neg this];exact A i (by simpa using l)
 rw[<-yP hi a] at s t;refine(D _ j B w g vs s u t).mono λe w' ⟨v,r,h',g',z,y,d,q,o⟩=>?_;rw[yP hi a,yP (d id hi) a] at q;rw[yP (d id hi) a] at o;exact⟨v,r,h'.set id ob,g',z,⟨h',rfl,y,d⟩,b h' d,q,o⟩
def x7a{o:Oper}{id:Nat}{ob:Ob}(k:vf P T h o K)(hi:h[id]? =some .res)(e:ob.isRes=false):vf P T (h.set id ob) o λi q=>∃h',q=h'.set id ob/\K i h'/\(∃v,i=qG T o.dst v)/\ResK h h':=by
 have k:=VB k;unfold vf at k⊢;split at k
 ·rename_i x h' b;rw[(XT b hi e).1];exact⟨h',rfl,k⟩
 ·rename_i b;split at k
  ·rename_i c l
   have d:zO P T (h.set id ob) o.op=none:=by
    rw[l] at b⊢;split at k
    ·rename_i f aZ a;obtain⟨callee,args,m⟩:=c;unfold vS at a;split at a
     ·rename_i X g;simp only at g;subst g;rfl
     ·cases a
    ·exact k.elim
   rw[d];simp only;split at k
   ·rename_i f aZ a;exact(zJa k hi e).mono λr h'' ⟨h',p,⟨n,j,s⟩,_⟩=>⟨h',p,n,j,s⟩
   ·exact k.elim
  ·exact k.elim
def JG(b:Vy ops x y=true):(∀d,x.dst=some d->xz ops y d=false/\y.dst≠some d)/\(∀d,y.dst=some d->xz ops x d=false/\x.dst≠some d):=by
 simp only[Vy,zi] at b
 have c:∀d,x.dst=some d->xz ops y d=false/\y.dst≠some d:=λd a=>by
  have:=b.1;rw[a] at this;simpa using this
 refine⟨c,λd a=>⟨?_,λe=>(c d e).2 a⟩⟩;have:=b.2;rw[a] at this;simpa using this
def Xy{l:Nat}{a:Oper}(f:ops[l]? =some a)(e:ops[p.1]? =some x)(b:xV ops l p.1=true):(∀d,x.dst=some d->xz ops a d=false)/\(∀d,x.dst=some d->a.dst≠some d):=by
 unfold xV at b;rw[f,e] at b;simp only at b;refine⟨λd c=>?_,λd c=>?_⟩<;>(rw[c] at b;simp at b)
 ·exact b.1
 ·exact b.2
def WQ{d:Nat}{v:AV}(a:x.dst≠some d):qG T x.dst v d=T d:=by
 cases b:x.dst with
 | none=>rfl
 | some e=>simp only[qG,upd];rw[if_neg];intro h;exact a (by rw[b,h])
def Zg{l:Nat}{v:AV}(f:ops[p.1]? =some x)(j:xV ops l p.1=true):vL P ops (qG T x.dst v) h l↔vL P ops T h l:=by
 unfold vL;cases b:ops[l]? with
 | none=>simp
 | some a=>
   simp only;obtain⟨c,i⟩:=Xy b f j;cases g:a.dst with
   | none=>simp
   | some d=>
     simp only;rw[Z6 c,WQ λe=>i d e g]
def VD{l id:Nat}{ob:Ob}(k:vL P ops T h l)(hi:h[id]? =some .res)(e:ob.isRes=false):vL P ops T (h.set id ob) l:=by
 unfold vL at*
 cases c:ops[l]? with
 | none=>rw[c] at k;exact k
 | some a=>
   rw[c] at k;simp only at k⊢;cases b:a.dst with
   | none=>rw[b] at k;exact k
   | some d=>rw[b] at k;exact x5a k hi e
def kO{o:Oper}(a:cls o.op≠3):xm P ops b q o K T h=xM P ops o (λT h=>jf P ops T h q.2.2/\K T h) T h:=if_neg a
def xW{o:Oper}(a:cls o.op=3):xm P ops b q o K T h=JE P ops (b+q.2.1) o K T h:=if_pos a
def xq{o:Oper}(c:cls o.op<=1)(a:q.2.2=[]):xm P ops b q o K T h↔∃x,w9 P ops T h o=some x/\K (qG T o.dst x) h:=by
 rw[kO zb,a];simp only[jf,true_and];exact WP c
def zKa{id:Nat}{o:Oper}(k:yN P id o K T h):yN P id o (λc b=>K c b/\(∃v,c=qG T o.dst v)/\∀j,j≠id->h[j]? =some .res->b[j]? =some .res) T h:=by
 unfold yN at*
 split
 ·rename_i ob mk a;rw[a] at k;exact⟨k.1,k.2,⟨_,rfl⟩,λj f d=>by rw[zf (λe=>f e.symm)];exact d⟩
 ·rename_i a;rw[a] at k;exact k
def WR{o:Oper}(k:xm P ops b q o K T h)(d:∀e h',(∀j,(cls o.op=3->j≠b+q.2.1)->h[j]? =some .res->h'[j]? =some .res)->K e h'->K' e h'):xm P ops b q o K' T h:=by
 by_cases c:cls o.op=3
 ·rw[xW c] at k⊢;refine yO k (λk=>WM (zKa k) λi f ⟨k,_,a⟩=>d _ _ (λj g=>a j (g c)) k) (d _ _ λj _ a=>a)
 ·rw[kO c] at k⊢;exact j8 (yc k) λi f ⟨⟨k1,k2⟩,_,a⟩=>⟨k1,d _ _ (λj _=>a j) k2⟩
def wo(P:Program)(ops:Array Oper)(T:Env)(o:Oper):Option (Option (Ob × (Nat->AV))):=match o.guard with
 | none=>(ji P T o.op).map some
 | some (j,a)=>match (ops[j]?).bind (·.dst) with
   | some d=>match T d with
     | .v (.bool b)=>if b=a then(ji P T o.op).map some else some none
     | .v (.tuple _)=>some none
     | _=>none
   | none=>none
def stepAt_eff{id:Nat}{o:Oper}:JE P ops id o K T h↔match wo P ops T o with
    | some (some (ob,mk))=>h[id]? =some .res/\K (qG T o.dst (mk id)) (h.set id ob)
    | some none=>K (qG T o.dst (.v undef)) h
    | none=>False:=by
 unfold JE xl wo yN;cases o.guard with
 | none=>cases ji P T o.op<;>simp
 | some q=>
   obtain⟨j,a⟩:=q;simp only[];cases (ops[j]?).bind (·.dst) with
   | none=>simp
   | some d=>
     simp only[];generalize T d=td;split
     ·rename_i b;by_cases c:b=a
      ·subst c;cases ji P T o.op<;>simp
      ·simp[c]
     ·simp
     ·rename_i n1 n2;split
      ·rename_i heq;split at heq
       ·exact absurd rfl (n1 _)
       ·cases heq
       ·cases heq
      ·rename_i heq;split at heq
       ·exact absurd rfl (n1 _)
       ·exact absurd rfl (n2 _)
       ·cases heq
      ·rfl
def jca{o:Oper}{d:Nat}{v:AV}(a:xz ops o d=false):wo P ops (upd T d v) o=wo P ops T o:=by
 unfold xz at a;rw[zU] at a;unfold wo;cases g:o.guard with
 | none=>simp only[ZK o.op a.1]
 | some q=>
   obtain⟨j,c⟩:=q;rw[g] at a;simp only[];cases i:(ops[j]?).bind (·.dst) with
   | none=>rfl
   | some e=>
     have b:e≠d:=λh=>by
      have:=a.2;simp[i,h] at this
     have f:upd T d v e=T e:=(by simp[upd,b]);simp only[f,ZK o.op a.1]
def Z7{o z:Oper}{v:AV}(b:∀d,z.dst=some d->xz ops o d=false):wo P ops (qG T z.dst v) o=wo P ops T o:=by
 cases a:z.dst with
 | none=>rfl
 | some d=>exact jca (b d a)
def zLa{o:Oper}{ob:Ob}{mk:Nat->AV}(a:wo P ops T o=some (some (ob,mk))):ob.isRes=false:=by
 have key:(ji P T o.op).map some=some (some (ob,mk))->ob.isRes=false:=λh=>by
  cases b:ji P T o.op with
  | none=>rw[b] at h;cases h
  | some q=>rw[b] at h;injection h with h;injection h with h;subst h;exact Vt b
 unfold wo at a;split at a
 ·exact key a
 ·split at a
  ·split at a
   ·split at a
    ·exact key a
    ·injection a with a;cases a
   ·injection a with a;cases a
   ·cases a
  ·cases a
def XU{o:Oper}(k:vf P T h o K):∃v h',K (qG T o.dst v) h'/\ResK h h':=by
 unfold vf at k;split at k
 ·rename_i x h' a;exact⟨x,h',k,(wE (φ:=λ_=> .res) (λ_ _=>rfl) _ a).2⟩
 ·split at k
  ·split at k
   ·obtain⟨_,⟨r,h',k2,k3⟩,_⟩:=k;exact⟨r,h',k2,k3⟩
   ·exact k.elim
  ·exact k.elim
def JH{o:Oper}(k:xM P ops o K T h):∃v h',K (qG T o.dst v) h'/\ResK h h':=by
 unfold xM xl at k;split at k
 ·exact XU k
 ·rename_i j a d;split at k
  ·split at k
   ·rename_i b _;by_cases c:b=a
    ·exact XU (k.1 c)
    ·exact⟨_,h,k.2 c,.refl⟩
   ·exact⟨_,h,k,.refl⟩
   ·exact k.elim
  ·exact k.elim
def jda{o:Oper}{id:Nat}{ob:Ob}(k:vf P T h o K)(hi:h[id]? =some .res)(b:ob.isRes=false)(e:∀v h',ResK h h'->K (qG T o.dst v) h'->K' (qG T o.dst v) (h'.set id ob)):vf P T (h.set id ob) o K':=
 Ze (x7a k hi b) λi g ⟨h',d,c,⟨v,a⟩,f⟩=>by subst d a;exact e v h' f c
section
variable {kk:IntKind} {n n':Int} {v v':AV}
def wq(a:n≠n'):∀(es:List (AV × AV)),xj n' (jy kk n v es)=xj n' es
 | []=>by simp[jy,xj,xu,a]
 | e::r=>by
   unfold jy;split
   ·simp[xj,xu,a]
   ·simp[xj,wq a r]
def vi(a:n≠n'):∀(es:List (AV × AV)),xj n' (jK kk n v es)=xj n' es
 | []=>rfl
 | e::r=>by
   unfold jK;split
   ·rename_i h;have k1:xu (.v (.int kk n),v)=n:=rfl;simp[xj,k1,vi a r,h]
   ·simp[xj,vi a r]
def YU(a:n≠n'):∀(es:List (AV × AV)),jK kk n v (jK kk n' v' es)=jK kk n' v' (jK kk n v es)
 | []=>rfl
 | e::r=>by
   have k1:xu (.v (.int kk n),v)=n:=rfl;have k2:xu (.v (.int kk n'),v')=n':=rfl;have b:=YU a r;by_cases c:xu e=n
   ·simp[jK,c,a,k1,b]
   ·by_cases d:xu e=n'
    ·simp[jK,d,show n'≠n from λe=>a e.symm,k2,b]
    ·simp[jK,c,d,b]
def KJ(a:n≠n'):∀(es:List (AV × AV)),jK kk n v (jy kk n' v' es)=jy kk n' v' (jK kk n v es)
 | []=>by
   have k2:xu (.v (.int kk n'),v')=n':=rfl;simp[jK,jy,k2,show n'≠n from λe=>a e.symm]
 | e::r=>by
   have k1:xu (.v (.int kk n),v)=n:=rfl;have k2:xu (.v (.int kk n'),v')=n':=rfl;have d:=KJ a r;by_cases c:xu e=n
   ·by_cases b:n'<n
    ·simp[jK,jy,c,k1,k2,b,show n'≠n from λe=>a e.symm]
    ·simp[jK,jy,c,k1,b,d]
   ·by_cases b:n'<xu e
    ·simp[jK,jy,c,k2,b,show n'≠n from λe=>a e.symm]
    ·simp[jK,jy,c,b,d]
def WS:∀ {es:List (AV × AV)},xC kk (jy kk n v es)=xC kk es:=by
 intro es;rw[Bool.eq_iff_iff,jF,jF];constructor
 ·exact λh q a=>h q ((wD es).mem_iff.2 (by simp[a]))
 ·intro h q a;rcases zK.1 ((wD es).mem_iff.1 a) with rfl|a
  ·rfl
  ·exact h q a
def WT{es:List (AV × AV)}(h:xC kk es=true):xC kk (jK kk n v es)=true:=by
 rw[jF] at h⊢;intro q b;rw[ve,zQ] at b;obtain⟨d,e,a⟩:=b;by_cases c:xu d=n
 ·rw[if_pos c] at a;subst a;rfl
 ·rw[if_neg c] at a;subst a;exact h _ e
def zMa{es g j:List (AV × AV)}(f:n≠n')(h:yG kk n v es=some g)(i:yG kk n' v' g=some j):∃b,yG kk n' v' es=some b/\yG kk n v b=some j:=by
 unfold yG at h;split at h
 case isFalse=>cases h
 rename_i m;injection h with h
 have k:xC kk g=true:=by
  unfold yG at i;split at i
  ·assumption
  ·cases i
 have d:n'≠n:=λe=>f e.symm;refine⟨_,by unfold yG;rw[if_pos m],?_⟩;unfold yG at i⊢;rw[if_pos k] at i
 have l:xC kk (if xj n' es=true then jK kk n' v' es else jy kk n' v' es)=true:=by
  split
  ·exact WT m
  ·rw[WS];exact m
 rw[if_pos l, <-i, <-h];congr 1;by_cases a:xj n es=true<;>by_cases c:xj n' es=true
 ·simp only[a,c,if_true,vi f,vi d,YU f]
 ·simp only[a,c,if_true,if_false,Bool.false_eq_true,vi f,wq d,KJ f]
 ·simp only[a,c,if_true,if_false,Bool.false_eq_true,wq f,vi d,KJ d]
 ·simp only[a,c,if_false,Bool.false_eq_true,wq f,wq d,QO f]
end
def evalOp_ins{t:TypeId}{a:Tmp}{kk:IntKind}{n:Int}{v:Operand}{u:AV}{h':List Ob}(b:zO P T h (.insert t (.tmp a) (.const (.int kk n)) v)=some (u,h')):
    ∃ id es es',T a= .mp id/\h[id]? =some (.mapo es)/\yG kk n (ev T v) es=some es'/\u= .v undef/\h'=h.set id (.mapo es')/\
      ∀e g f j n2,e[id]? =some (.mapo g)->yG kk n2 (ev T j) g=some f->zO P T e (.insert t (.tmp a) (.const (.int kk n2)) j)=some (.v undef,e.set id (.mapo f)):=by
 simp only[zO,show ev T (.tmp a)=T a from rfl,show ev T (.const (.int kk n))= .v (.int kk n) from rfl] at b;split at b
 ·rename_i q r id kk' n' p k c;injection c with c;injection c with hk1 hk2;subst hk1 hk2;split at b
  ·rename_i d es i o;split at b
   ·rename_i heq;subst heq;cases hi:yG d n (ev T v) es with
    | none=>rw[hi] at b;cases b
    | some es'=>
      rw[hi] at b;injection b with b;injection b with hx1 hx2;subst hx1 hx2;refine⟨id,es,es',k,o,hi,rfl,rfl,λe g f j n2 l m=>?_⟩;simp only[zO,show ev T (.tmp a)=T a from rfl,show ev T (.const (.int d n2))= .v (.int d n2) from rfl,p,k,i,l,if_true,m];rfl
   ·cases b
  ·cases b
 ·cases b
def jea(c:KI x y=true)(ha:Vy ops x y=true)(B:p.2.2=[])(G:q.2.2=[])(k:xm P ops b p x (xm P ops b q y K) T h):xm P ops b (q.1,q.2.1,[]) y (xm P ops b p x K) T h:=by
 obtain⟨A,I⟩:=JG ha;obtain⟨l,X,xt,xp,xa,Q⟩:=x;obtain⟨g,υ,yt,S,Y,N⟩:=y;unfold KI at c;simp only at c;split at c
 case h_2=>cases c
 rename_i t m k1 n v t' m' k2 n' v';simp only[zi,beq_iff_eq,bne_iff_ne,ne_eq] at c;obtain⟨⟨⟨⟨⟨j,ht⟩,hk⟩,hn⟩,D⟩,C⟩:=c;subst ht hk;split at j
 case h_2=>cases j
 rename_i a a';have j:a=a':=by simpa using j
 subst j;have D:Q=none:=by cases Q<;>simp_all
 have C:N=none:=by cases N<;>simp_all
 subst D C;have c3:∀z w,cls (.insert t (.tmp a) z w)≠3:=λz w=>by simp[cls]
 have e:∀(q:Ent) (o:Oper) (K:Env->List Ob->Prop) (T:Env) (h:List Ob) (z w:Operand),q.2.2=[]->o.op= .insert t (.tmp a) z w->o.guard=none->(xm P ops b q o K T h↔∃u h',zO P T h o.op=some (u,h')/\K (qG T o.dst u) h'):=λq o K T h z w hq O W=>by
  rw[kO (by rw[O];exact c3 z w),hq];simp only[jf,true_and,xM,xl,W,q8a,vf];cases he:zO P T h o.op with
  | none=>simp[O]
  | some r=>obtain⟨u,h'⟩:=r;simp only[Option.some.injEq,Prod.mk.injEq];exact⟨λk=>⟨u,h',⟨rfl,rfl⟩,k⟩,λ⟨_,_,⟨F,i⟩,k⟩=>by subst F i;exact k⟩
 rw[e p _ _ T h _ _ B rfl rfl] at k;obtain⟨u,h1,F,k⟩:=k;rw[e q _ _ _ h1 _ _ G rfl rfl] at k;obtain⟨u',h2,i,k⟩:=k
 have U:∀u h,zO P (qG T l u) h (.insert t (.tmp a) (.const (.int k1 n')) v')=zO P T h (.insert t (.tmp a) (.const (.int k1 n')) v'):=λu h=>by
  cases s:l with
  | none=>rfl
  | some d=>
    have:=(A d s).1;unfold xz at this;rw[zU] at this;exact vg _ this.1
 have hx:∀u h,zO P (qG T g u) h (.insert t (.tmp a) (.const (.int k1 n)) v)=zO P T h (.insert t (.tmp a) (.const (.int k1 n)) v):=λu h=>by
  cases s:g with
  | none=>rfl
  | some d=>
    have:=(I d s).1;unfold xz at this;rw[zU] at this;exact vg _ this.1
 simp only at F i;rw[U] at i;obtain⟨id,es,V,m1,L,m3,m4,m5,M⟩:=evalOp_ins F;obtain⟨ω,es',J,E,f,o3,o4,Z,o6⟩:=evalOp_ins i;rw[m1] at E;injection E with E;subst E m4 o4 m5;rw[zr (xP L)] at f;injection f with f;injection f with f;subst f;obtain⟨R,i1,i2⟩:=zMa hn m3 o3;rw[e (q.1,q.2.1,[]) _ _ T h _ _ rfl rfl rfl];refine⟨.v undef,_,M h es R v' n' L i1,?_⟩;rw[e p _ _ _ _ _ _ B rfl rfl];simp only;rw[hx];refine⟨.v undef,_,M _ R J v n (by rw[zr (xP L)]) i2,?_⟩;rw[qB];subst Z;rw[qB] at k;have H:qG (qG T l (.v undef)) g (.v undef)=qG (qG T g (.v undef)) l (.v undef):=Jh (x:=⟨l,.insert t (.tmp a) (.const (.int k1 n)) v,xt,xp,xa,none⟩) (y:=⟨g,.insert t (.tmp a) (.const (.int k1 n')) v',yt,S,Y,none⟩) λd s=>(A d s).2;simp only at k;rw[H] at k;exact k
def KK{op:Op}{mk:Nat->AV}{ob:Ob}(b:ji P T op=some (ob,mk))(a:Vz op=true):∀es,ob≠ .mapo es:=by
 intro es e;subst e
 cases op<;>simp only[Vz] at a<;>first
  | cases a;done
  | skip
 all_goals
  simp only[ji] at b
  repeat' split at b
 all_goals first
  | cases b;done
  | (simp only[Option.map_eq_some_iff,Prod.mk.injEq] at b;obtain⟨_,_,h,_⟩:=b;cases h;done)
def WU{o:Oper}{ob:Ob}{mk:Nat->AV}(a:wo P ops T o=some (some (ob,mk)))(b:Vz o.op=true):∀es,ob≠ .mapo es:=by
 have key:(ji P T o.op).map some=some (some (ob,mk))->∀es,ob≠ .mapo es:=λh=>by
  cases c:ji P T o.op with
  | none=>rw[c] at h;cases h
  | some q=>rw[c] at h;injection h with h;injection h with h;subst h;exact KK c b
 unfold wo at a;split at a
 ·exact key a
 ·split at a
  ·split at a
   ·split at a
    ·exact key a
    ·injection a with a;cases a
   ·injection a with a;cases a
   ·cases a
  ·cases a
def insert_at{id:Nat}{ob:Ob}{t:TypeId}{m k v:Operand}{u:AV}{l:List Ob}(i:∀es,ob≠ .mapo es)(a:zO P T (h.set id ob) (.insert t m k v)=some (u,l))(hi:h[id]? =some .res):
    ∃h',zO P T h (.insert t m k v)=some (u,h')/\l=h'.set id ob/\h'[id]? =some .res:=by
 simp only[zO] at a⊢;split at a
 ·rename_i p q f kk n r o j;split at a
  ·rename_i kk' es g d
   have b:id≠f:=λe=>by
    subst e;rw[zr (zj.1 hi).1] at d;injection d with d;exact i es d
   rw[zf b] at d;split at a
   ·rename_i heq;simp only[g,d,if_pos heq];cases c:yG kk' n (ev T v) es with
    | none=>subst heq;rw[c] at a;cases a
    | some es'=>
      subst heq;rw[c] at a;injection a with a;injection a with hx1 hx2;subst hx1 hx2;refine⟨_,by rw[c];rfl,by rw[List.set_comm _ _ b],by rw[zf (λe=>b e.symm)];exact hi⟩
   ·cases a
  ·cases a
 ·cases a
def WV(n:jba x y=true)(Q:Vy ops x y=true)(U:p.2.2=[])(i:q.2.2=[])(k:xm P ops b p x (xm P ops b q y K) T h):xm P ops b (q.1,q.2.1,[]) y (xm P ops b p x K) T h:=by
 obtain⟨s,G⟩:=JG Q;simp only[jba,zi] at n;obtain⟨⟨A,C⟩,D⟩:=n
 have g:cls x.op=3:=by
  generalize x.op=op at A
  cases op<;>simp only[Vz] at A<;>first
   | rfl
   | cases A
 obtain⟨e,H,F,B,E,J⟩:=y;simp only at C D;have D:J=none:=by cases J<;>simp_all
 subst D
 cases H<;>simp only[k2a] at C<;>first
  | cases C;done
  | skip
 rename_i t m kk v;have I:cls (.insert t m kk v)≠3:=by simp[cls]
 have a:∀(q:Ent) (K:Env->List Ob->Prop) (T:Env) (h:List Ob),q.2.2=[]->(xm P ops b q ⟨e,.insert t m kk v,F,B,E,none⟩ K T h↔∃u h',zO P T h (.insert t m kk v)=some (u,h')/\K (qG T e u) h'):=λq K T h O=>by
  rw[kO I,O];simp only[jf,true_and,xM,xl,q8a,vf];cases W:zO P T h (.insert t m kk v) with
  | none=>simp
  | some r=>obtain⟨u,h'⟩:=r;simp only[Option.some.injEq,Prod.mk.injEq];exact⟨λk=>⟨u,h',⟨rfl,rfl⟩,k⟩,λ⟨_,_,⟨f,N⟩,k⟩=>by subst f N;exact k⟩
 have c:∀w h,zO P (qG T x.dst w) h (.insert t m kk v)=zO P T h (.insert t m kk v):=λw h=>by
  cases o:x.dst with
  | none=>rfl
  | some d=>
    have:=(s d o).1;unfold xz at this;rw[zU] at this;exact vg _ this.1
 have l:∀u w,qG (qG T x.dst u) e w=qG (qG T e w) x.dst u:=λu w=>Jh (y:=⟨e,.insert t m kk v,F,B,E,none⟩) λd o=>(s d o).2;have j:∀w,wo P ops (qG T e w) x=wo P ops T x:=λw=>Z7 (z:=⟨e,.insert t m kk v,F,B,E,none⟩) λd o=>(G d o).1;rw[xW g,stepAt_eff] at k;rw[a _ _ T h rfl];cases hex:wo P ops T x with
 | none=>rw[hex] at k;exact k.elim
 | some ex=>
   rw[hex] at k;cases ex with
   | none=>
     simp only at k;rw[a _ _ _ _ i] at k;obtain⟨u,h',f,k⟩:=k;rw[c] at f;refine⟨u,h',f,?_⟩;rw[xW g,stepAt_eff,j,hex];simp only;rw[<-l];exact k
   | some M=>
     obtain⟨ob,mk⟩:=M;simp only at k;obtain⟨k1,k2⟩:=k;rw[a _ _ _ _ i] at k2;obtain⟨u,h',f,k2⟩:=k2;rw[c] at f;obtain⟨R,S,L,V⟩:=insert_at (WU hex A) f k1;refine⟨u,R,S,?_⟩;rw[xW g,stepAt_eff,j,hex];simp only;rw[<-l];subst L;exact⟨V,k2⟩
def swapE{l2:List Nat}(J:ops[p.1]? =some x)(hs:ym ops p q x y=true)(hp:cls x.op≠2->p.2.2=[])(hq:cls y.op≠2->q.2.2=[])(V:ops[q.1]? =some y)
    (A:∀l∈l2,l∈q.2.2/\xV ops l p.1=true) (U:∀l∈p.2.2,xV ops l q.1=true) (ν:∀l,l∈q.2.2->l∉l2->l=p.1)
    (hr:cls y.op=3->h[b+q.2.1]? =some .res) (η:cls x.op=3->cls y.op=3->p.2.1≠q.2.1) (N:p.1∈q.2.2->∀d,x.dst=some d->xz ops x d=false)
    (k:xm P ops b p x (xm P ops b q y K) T h):xm P ops b (q.1,q.2.1,l2) y (xm P ops b p x K) T h:=by
 simp only[ym,zi,Bool.or_eq_true,beq_iff_eq,bne_iff_ne,ne_eq,decide_eq_true_eq] at hs;obtain⟨ha,hs⟩:=hs;obtain⟨z,B⟩:=JG ha
 have Q:cls y.op=3->xm P ops b (q.1,q.2.1,l2) y (xm P ops b p x K) T h:=λZ=>by
  have hi:=hr Z;rw[xW Z,stepAt_eff]
  have i:∀v h',xm P ops b q y K (qG T x.dst v) h'↔match wo P ops T y with
    | some (some (ob,mk))=>h'[b+q.2.1]? =some .res/\K (qG (qG T x.dst v) y.dst (mk (b+q.2.1))) (h'.set (b+q.2.1) ob)
    | some none=>K (qG (qG T x.dst v) y.dst (.v undef)) h'
    | none=>False:=λv h'=>by
   rw[xW Z,stepAt_eff,Z7 (λd c=>(z d c).1)]
  have H:∀u v,qG (qG T x.dst u) y.dst v=qG (qG T y.dst v) x.dst u:=λu v=>Jh λd c=>(z d c).2;have F:∀d,y.dst=some d->xz ops x d=false:=λd c=>(B d c).1;by_cases I:cls x.op=3
  ·rw[xW I,stepAt_eff] at k;have G:wo P ops (qG T y.dst (.v undef)) x=wo P ops T x/\∀v,wo P ops (qG T y.dst v) x=wo P ops T x:=⟨Z7 F,λv=>Z7 F⟩;cases hex:wo P ops T x with
   | none=>rw[hex] at k;exact k.elim
   | some ex=>
     rw[hex] at k;have L:b+p.2.1≠b+q.2.1:=λe=>η I Z zb;cases ex with
     | none=>
       simp only at k;rw[i] at k;cases g:wo P ops T y with
       | none=>rw[g] at k;exact k.elim
       | some W=>cases W with
         | none=>simp only[g] at k ⊢;rw[xW I,stepAt_eff,G.2,hex];simp only;rw[<-H];exact k
         | some X=>obtain⟨ob,mk⟩:=X;simp only[g] at k ⊢;refine⟨hi,?_⟩;rw[xW I,stepAt_eff,G.2,hex];simp only;rw[<-H];exact k.2
     | some ox=>
       obtain⟨ox,mx⟩:=ox;simp only at k;obtain⟨k1,k2⟩:=k;rw[i] at k2;cases g:wo P ops T y with
       | none=>rw[g] at k2;exact k2.elim
       | some W=>cases W with
         | none=>simp only[g] at k2 ⊢;rw[xW I,stepAt_eff,G.2,hex];simp only;rw[<-H];exact⟨k1,k2⟩
         | some X=>
           obtain⟨ob,mk⟩:=X;simp only[g] at k2⊢;refine⟨hi,?_⟩;rw[xW I,stepAt_eff,G.2,hex];simp only;rw[<-H,zf (λe=>L e.symm),List.set_comm _ _ (λe=>L e.symm)];exact⟨k1,k2.2⟩
  ·rw[kO I] at k;obtain⟨v0,h0,k0,_⟩:=JH k;have k0:=(i v0 h0).1 k0.2;cases g:wo P ops T y with
   | none=>rw[g] at k0;exact k0.elim
   | some W=>cases W with
     | none=>
       simp only;rw[kO I]
       have:xM P ops x (λj a=>jf P ops j a p.2.2/\K (qG j y.dst (.v undef)) a) T h:=j8 (yc k) λj a ⟨⟨f,m⟩,⟨v,e⟩,_⟩=>by
        subst e;refine⟨f,?_⟩;have:=(i v a).1 m;rw[g] at this;exact this
       have κ:xM P ops x (λj a=>jf P ops j a p.2.2/\K j a) (qG T y.dst (.v undef)) h:=by
        cases c:y.dst with
        | none=>
          rw[c] at this;exact this
        | some d=>
          rw[c] at this;show xM P ops x _ (upd T d (.v undef)) h;rw[Zf (B d c).1 (B d c).2];refine j8 this λj a ⟨f,m⟩=>⟨?_,m⟩;rw[jL] at f⊢;intro l o;have:=(Zg (P:=P) (T:=j) (h:=a) (v:= .v undef) (p:=q) V (U l o)).2 (f l o);rw[c] at this;exact this
       exact κ
     | some X=>
       obtain⟨ob,mk⟩:=X;simp only;refine⟨hi,?_⟩;have O:=zLa g;rw[kO I]
       have key:xM P ops x (λj a=>jf P ops j a p.2.2/\K (qG j y.dst (mk (b+q.2.1))) a) T (h.set (b+q.2.1) ob):=by
        refine KH k (λk=>jda k hi O λv h' θ ⟨f,m⟩=>?_) λ⟨f,m⟩=>?_
        ·have m:=(i v h').1 m;rw[g] at m;refine⟨?_,m.2⟩;rw[jL] at f⊢;exact λl o=>VD (f l o) (θ _ hi) O
        ·have m:=(i _ h).1 m;rw[g] at m;refine⟨?_,m.2⟩;rw[jL] at f⊢;exact λl o=>VD (f l o) hi O
       cases c:y.dst with
       | none=>rw[c] at key;exact key
       | some d=>
         rw[c] at key;show xM P ops x _ (upd T d (mk (b+q.2.1))) (h.set (b+q.2.1) ob);rw[Zf (B d c).1 (B d c).2];refine j8 key λj a ⟨f,m⟩=>⟨?_,m⟩;rw[jL] at f⊢;intro l o;have:=(Zg (P:=P) (T:=j) (h:=a) (v:=mk (b+q.2.1)) (p:=q) V (U l o)).2 (f l o);rw[c] at this;exact this
 rcases hs with(((((⟨γ,M⟩|⟨ε,S⟩)|M)|⟨⟨ε,σ⟩,t⟩)|⟨⟨E,C⟩,n⟩)|⟨⟨E,C⟩,n⟩)
 ·
  have s:=hp zb;rw[xq zb s] at k;obtain⟨D,h1,a⟩:=k;rw[kO M] at a⊢
  have R:xM P ops y (λj a=>jf P ops j a l2/\K (qG j x.dst D) a) T h:=by
   cases c:x.dst with
   | none=>rw[c] at a;exact j8 a λj a ⟨f,m⟩=>⟨by rw[jL] at f ⊢;exact λl o=>f l (A l o).1,m⟩
   | some d=>
     rw[c] at a;have a:xM P ops y _ (upd T d D) h:=a;rw[Zf (z d c).1 (z d c).2] at a;refine j8 a λj a ⟨f,m⟩=>⟨?_,m⟩;rw[jL] at f⊢;intro l o;have:=f l (A l o).1;refine(Zg (P:=P) (T:=j) (h:=a) (v:=D) J (A l o).2).1 ?_;rw[c];exact this
  refine j8 (yc R) λj a ⟨⟨f,m⟩,⟨v,e⟩,_⟩=>⟨f,?_⟩;subst e;refine(xq zb s).2 ⟨D,?_,m⟩;rw[Z6 λd c=>(B d c).1,zIa γ a h];exact h1
 ·have s:=hp zb;have Y:=hq zb
  have w:l2=[]:=by
   cases l2 with
   | nil=>rfl
   | cons l r=>have:=(A l zh).1;rw[Y] at this;cases this
  subst w;rw[xq zb s] at k;obtain⟨D,h1,a⟩:=k;rw[xq S Y] at a;obtain⟨vy,R,h4⟩:=a;rw[Z6 λd c=>(z d c).1] at R;refine(xq (q:=(q.1,q.2.1,[])) S rfl).2 ⟨vy,R,(xq zb s).2 ⟨D,?_,?_⟩⟩
  ·rw[Z6 λd c=>(B d c).1];exact h1
  ·rw[<-Jh λd c=>(z d c).2];exact h4
 ·exact Q M
 ·
  have s:=hp zb;rw[xq zb s] at k;obtain⟨D,h1,a⟩:=k;rw[kO zb] at a⊢;have t:p.1∈q.2.2:=by simpa using t
  have R:xM P ops y (λj a=>(jf P ops j a l2/\w9 P ops j a x=some D)/\K (qG j x.dst D) a) T h:=by
   have δ:∃d,x.dst=some d:=by
    obtain⟨v0,h0,⟨f,_⟩,_⟩:=JH a;rw[jL] at f;have:=f p.1 t;unfold vL at this;rw[J] at this;simp only at this;cases c:x.dst with
    | none=>rw[c] at this;exact this.elim
    | some d=>exact⟨d,rfl⟩
   obtain⟨d,c⟩:=δ;rw[c] at a⊢;have a:xM P ops y _ (upd T d D) h:=a;rw[Zf (z d c).1 (z d c).2] at a;refine j8 (yc a) λj a ⟨⟨f,m⟩,⟨v,e⟩,_⟩=>⟨⟨?_,?_⟩,m⟩
   ·rw[jL] at f⊢;intro l o;have:=f l (A l o).1;refine(Zg (P:=P) (T:=j) (h:=a) (v:=D) J (A l o).2).1 ?_;rw[c];exact this
   ·rw[jL] at f;have:=f p.1 t;unfold vL at this;rw[J] at this;simp only[c] at this;rw[VA (N t d c)] at this;rw[this];simp[upd]
  refine j8 (yc R) λj a ⟨⟨⟨f,q0⟩,m⟩,⟨v,e⟩,_⟩=>⟨f,?_⟩;exact(xq zb s).2 ⟨D,q0,m⟩
 ·
  have C:p.2.2=[]:=by simpa using C
  have n:q.2.2=[]:=by simpa using n
  have w:l2=[]:=by
   cases l2 with
   | nil=>rfl
   | cons l r=>have:=(A l zh).1;rw[n] at this;cases this
  subst w;exact jea E ha C n k
 ·have C:p.2.2=[]:=by simpa using C
  have n:q.2.2=[]:=by simpa using n
  have w:l2=[]:=by
   cases l2 with
   | nil=>rfl
   | cons l r=>have:=(A l zh).1;rw[n] at this;cases this
  subst w;exact WV E ha C n k
end
