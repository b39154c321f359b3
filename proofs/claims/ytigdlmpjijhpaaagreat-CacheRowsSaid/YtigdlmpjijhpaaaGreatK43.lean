import Derived.Test.YtigdlmpjijhpaaaGreatKA
import Derived.Test.YtigdlmpjijhpaaaGreatK42
import Derived.Test.YtigdlmpjijhpaaaGreatK38
import Derived.Test.YtigdlmpjijhpaaaGreatK34
import Derived.Test.YtigdlmpjijhpaaaGreatK35
import Derived.Test.YtigdlmpjijhpaaaGreatK36
import Derived.Test.YtigdlmpjijhpaaaGreatK37
set_option linter.all false
namespace Go.Proofs.YtigdlmpjijhpaaaGreat.Ax
open Go Go.Proofs
set_option maxRecDepth 100000
theorem xaa{S:Nat->Bool}{i j:Nat}(h:j≠i)(q:(if j=i then true else S j)=false):S j=false:=by rw[if_neg h] at q;exact q
theorem jn{S:Nat->Bool}{i j:Nat}(h:j≠i)(q:(if j=i then true else S j)=true):S j=true:=by rw[if_neg h] at q;exact q
structure JT (H:List Ob) (id l i3 j:Nat) (e:Ev) (w:Int) (ks:List (Int × Int)) (u1 u5:AV) (S:Nat->Bool) (T:Env) (h:List Ob):Prop where
 t1:T 1=u1
 t2:T 2= .ptr j 0
 t3:T 3= .ptr i3 0
 t5:T 5=u5
 t6:T 6=i64 w
 k0:S 0=true->T 20= .v (.map (some l))
 k1:S 1=true->T 21= .ptr i3 1
 k2:S 2=true->T 22=i64 e.worker
 k3:S 3=true->T 23=i64 w
 k4:S 4=true->T 24= .ag [i64 e.worker,i64 w]
 k5:S 5=true->∃n,T 25=i64 n
 k6:S 6=true->∃n,T 26=i64 n
 k8:S 8=true->S 7=true
 k7:∃es c ks',h=H.set id (.raw l (.map es c) [] [])/\KM es c ks'/\(S 7=false->ks'=ks)/\(S 7=true->ks'=Jq ks (e.worker,w)/\∃(n:Int) (st:Nat),T 27= .tup [i64 n,i64 st]/\(S 8=true->T 28=i64 st)/\∃x∈es.toList,x.born=st)
theorem y2a(h:List Ob)(s:Setup)(a:SA)(k:SIn h s a)(i j id l:Nat)(hi:h[i]? =some (.box 30 (qg s a)))(hj:h[j]? =some (.box 166 [.v (.map (some l))]))(es:Array MapEntry)(c:Nat)(ks:List (Int × Int))(hid:h[id]? =some (.raw l (.map es c) [] []))(hm:KM es c ks)(e:Ev):
  ACalls Tryz.prog 94 [evV e,.ptr i 0,.ptr j 0] h λr h'=>r= .tup []/\∃es' c',KM es' c' ((yj s e).foldl Jq ks)/\h'=h.set id (.raw l (.map es' c') [] []):=by
 obtain⟨kk,I⟩:∃kk,kk=yh s e.at_:=⟨_,rfl⟩
 have hb:(0<=kk.1/\kk.1<53)/\0<=kk.2/\kk.2<53:=by rw[I];exact⟨Jl _,Jl _⟩
 obtain⟨cnt,X⟩:∃cnt,cnt=(kk.2 - kk.1+1).toNat:=⟨_,rfl⟩
 have ψ:∀M,(h++M)[j]? =some (.box 166 [.v (.map (some l))]):=λM=>ze hj
 have κ:∀M,(h++M)[i]? =some (.box 30 (qg s a)):=λM=>ze hi
 have N:yj s e=(List.range cnt).map λn:Nat=>(e.worker,kk.1+(n:Int)):=by
  unfold yj Jp
  rw[xH, <-I, <-X]
  rfl
 have hex:∃r h',(r=AV.tup []/\∃es' c',KM es' c' ((yj s e).foldl Jq ks)/\h'=h.set id (.raw l (.map es' c') [] []))/\ResK h h':=by
  have E:∀(L:List (Int × Int)) (es:Array MapEntry) (c:Nat) (ks:List (Int × Int)),KM es c ks->∃es' c',KM es' c' (L.foldl Jq ks):=λL=>by
   induction L with
   | nil=>exact λes c ks h=>⟨es,c,h⟩
   | cons y L ih=>
     intro es c ks h
     obtain⟨es',c',_,_,_,h2,_⟩:=zNa (⟨#[.map es c],λ_ _=>0,0,default, #[]⟩:World) 0 y h rfl
     exact ih es' c' _ h2
  obtain⟨es',c',h2⟩:=E (yj s e) es c ks hm
  exact⟨_,_,⟨rfl,es',c',h2,rfl⟩,qj hid rfl⟩
 refine zj Tryz.f94 [] 29 rfl rfl rfl rfl rfl rfl (by decide) (hex) λB=>?_
 simp only[go_sem,κ,k.ones]
 refine zh (zub _ s a (k.app _) e.at_) ?_
 rintro _ h1 ⟨rfl,e1⟩
 rw[e1, <-I]
 simp only[go_sem,XN]
 refine zO (by decide) (λm T h'=>∃(n:Nat) (es':Array MapEntry) (c':Nat),n<=cnt/\KM es' c' (((List.range n).map λn:Nat=>(e.worker,kk.1+(n:Int))).foldl Jq ks)/\h'=h.set id (.raw l (.map es' c') [] [])++[.box 75 (evC e)]/\T 1= .ptr i 0/\T 2= .ptr j 0/\T 3= .ptr h.length 0/\T 5=i64 kk.2/\T 6=i64 (kk.1+(n:Int))/\m=cnt - n) cnt
  ⟨0,es,c,by omega,hm,by rw[qS hid],by simp only[go_sem],by simp only[go_sem],by simp only[go_sem],by simp only[go_sem],by(simp only[go_sem]<;>simp),rfl⟩ ?_
 rintro m T h' ⟨n,es',c',hn,O,rfl,t1,t2,t3,t5,t6,rfl⟩
 simp only[go_sem,t6,t5]
 refine ways (λq=>?_) (λq=>?_)
 ·have χ:kk.1+(n:Int)<=kk.2:=by simpa using q
  have ρ:n<cnt:=by omega
  have η:IntKind.wrap .i64 (kk.1+(n:Int)+1)=kk.1+(n:Int)+1:=qq (n:=kk.1+(n:Int)+1) (by unfold Fit;omega)
  simp only[go_sem]
  obtain⟨H,G⟩:∃H,H=h.set id (.raw l (.map es' c') [] [])++[.box 75 (evC e)]:=⟨_,rfl⟩
  have D:=(zd.1 hid).1
  have Q:H[id]? =some (.raw l (.map es' c') [] []):=by rw[G,zN (by rw[zJ];exact D),zo D]
  have P:id≠j:=λq=>by rw[q,hj] at hid;cases hid
  have δ:∀o,(H.set id o)[j]? =some (.box 166 [.v (.map (some l))]):=λo=>by
   rw[zc P,G]
   refine ze ?_
   rw[zc P]
   exact hj
  have β:∀o,(H.set id o)[h.length]? =some (.box 75 (evC e)):=λo=>by
   rw[zc (by omega),G,zK (by rw[zJ])]
   rfl
  rw[<-G]
  obtain⟨Y,R⟩:∃Y,Y=((List.range n).map λn:Nat=>(e.worker,kk.1+(n:Int))).foldl Jq ks:=⟨_,rfl⟩
  rw[<-R] at O
  refine jR (Wua (by kernel_rfl) (by decide) ?_ (JT H id l h.length j e (kk.1+(n:Int)) Y (.ptr i 0) (i64 kk.2)) ⟨by simp only[go_sem,t1],by simp only[go_sem,t2],by simp only[go_sem,t3],by simp only[go_sem,t5],by simp only[go_sem,t6],(λq=>by cases q),(λq=>by cases q),(λq=>by cases q),(λq=>by cases q),(λq=>by cases q),(λq=>by cases q),(λq=>by cases q),(λq=>by cases q),es',c',Y,by rw[qS Q],O,λ_=>rfl,λq=>by cases q⟩ ?_ ?_)
  ·intro i o b
   match i,b with
   | 0,b=>injection b with b;subst b;rfl
   | 1,b=>injection b with b;subst b;rfl
   | 2,b=>injection b with b;subst b;rfl
   | 3,b=>injection b with b;subst b;rfl
   | 4,b=>injection b with b;subst b;rfl
   | 5,b=>injection b with b;subst b;rfl
   | 6,b=>injection b with b;subst b;rfl
   | 7,b=>injection b with b;subst b;rfl
   | 8,b=>injection b with b;subst b;rfl
   | 9,b=>injection b with b;subst b;rfl
   | n+10,b=>cases b
  ·rintro i o S T h' b W f J
   match i,b with
   | 0,b=>
     injection b with b
     subst b
     simp only[List.getElem_toArray,List.getElem_cons_zero,List.getElem_cons_succ] at f⊢
     obtain⟨g,t,p,a1,a2,a3,a4⟩:=J.k7
     subst a1
     refine yZ (by decide) ?_
     simp only[go_sem,J.t2,δ]
     exact⟨by simp only[go_sem,J.t1],by simp only[go_sem,J.t2],by simp only[go_sem,J.t3],by simp only[go_sem,J.t5],by simp only[go_sem,J.t6],λ_=>by simp only[go_sem],λq=>by have z:=J.k1 (jn (by decide) q);simp only[go_sem,z],λq=>by have z:=J.k2 (jn (by decide) q);simp only[go_sem,z],λq=>by have z:=J.k3 (jn (by decide) q);simp only[go_sem,z],λq=>by have z:=J.k4 (jn (by decide) q);simp only[go_sem,z],λq=>let ⟨n,z⟩:=J.k5 (jn (by decide) q);⟨n,by simp only[go_sem,z]⟩,λq=>let ⟨n,z⟩:=J.k6 (jn (by decide) q);⟨n,by simp only[go_sem,z]⟩,λq=>J.k8 (jn (by decide) q),g,t,p,rfl,a2,λq=>a3 (xaa (by decide) q),λq=>let ⟨A,w,st,C,z3,z4⟩:=a4 (jn (by decide) q);⟨A,w,st,by simp only[go_sem,C],λq=>by have z:=z3 (jn (by decide) q);simp only[go_sem,z],z4⟩⟩
   | 1,b=>
     injection b with b
     subst b
     simp only[List.getElem_toArray,List.getElem_cons_zero,List.getElem_cons_succ] at f⊢
     obtain⟨g,t,p,a1,a2,a3,a4⟩:=J.k7
     subst a1
     refine yZ (by decide) ?_
     simp only[go_sem,J.t3]
     exact⟨by simp only[go_sem,J.t1],by simp only[go_sem,J.t2],by simp only[go_sem,J.t3],by simp only[go_sem,J.t5],by simp only[go_sem,J.t6],λq=>by have z:=J.k0 (jn (by decide) q);simp only[go_sem,z],λ_=>by simp only[go_sem],λq=>by have z:=J.k2 (jn (by decide) q);simp only[go_sem,z],λq=>by have z:=J.k3 (jn (by decide) q);simp only[go_sem,z],λq=>by have z:=J.k4 (jn (by decide) q);simp only[go_sem,z],λq=>let ⟨n,z⟩:=J.k5 (jn (by decide) q);⟨n,by simp only[go_sem,z]⟩,λq=>let ⟨n,z⟩:=J.k6 (jn (by decide) q);⟨n,by simp only[go_sem,z]⟩,λq=>J.k8 (jn (by decide) q),g,t,p,rfl,a2,λq=>a3 (xaa (by decide) q),λq=>let ⟨A,w,st,C,z3,z4⟩:=a4 (jn (by decide) q);⟨A,w,st,by simp only[go_sem,C],λq=>by have z:=z3 (jn (by decide) q);simp only[go_sem,z],z4⟩⟩
   | 2,b=>
     injection b with b
     subst b
     simp only[List.getElem_toArray,List.getElem_cons_zero,List.getElem_cons_succ] at f⊢
     have e1:=J.k1 (f 1 (by decide))
     obtain⟨g,t,p,a1,a2,a3,a4⟩:=J.k7
     subst a1
     refine yZ (by decide) ?_
     simp only[go_sem,e1,β]
     exact⟨by simp only[go_sem,J.t1],by simp only[go_sem,J.t2],by simp only[go_sem,J.t3],by simp only[go_sem,J.t5],by simp only[go_sem,J.t6],λq=>by have z:=J.k0 (jn (by decide) q);simp only[go_sem,z],λq=>by have z:=J.k1 (jn (by decide) q);simp only[go_sem,z],λ_=>by simp only[go_sem],λq=>by have z:=J.k3 (jn (by decide) q);simp only[go_sem,z],λq=>by have z:=J.k4 (jn (by decide) q);simp only[go_sem,z],λq=>let ⟨n,z⟩:=J.k5 (jn (by decide) q);⟨n,by simp only[go_sem,z]⟩,λq=>let ⟨n,z⟩:=J.k6 (jn (by decide) q);⟨n,by simp only[go_sem,z]⟩,λq=>J.k8 (jn (by decide) q),g,t,p,rfl,a2,λq=>a3 (xaa (by decide) q),λq=>let ⟨A,w,st,C,z3,z4⟩:=a4 (jn (by decide) q);⟨A,w,st,by simp only[go_sem,C],λq=>by have z:=z3 (jn (by decide) q);simp only[go_sem,z],z4⟩⟩
   | 3,b=>
     injection b with b
     subst b
     simp only[List.getElem_toArray,List.getElem_cons_zero,List.getElem_cons_succ] at f⊢
     obtain⟨g,t,p,a1,a2,a3,a4⟩:=J.k7
     subst a1
     refine yZ (by decide) ?_
     simp only[go_sem,J.t6]
     exact⟨by simp only[go_sem,J.t1],by simp only[go_sem,J.t2],by simp only[go_sem,J.t3],by simp only[go_sem,J.t5],by simp only[go_sem,J.t6],λq=>by have z:=J.k0 (jn (by decide) q);simp only[go_sem,z],λq=>by have z:=J.k1 (jn (by decide) q);simp only[go_sem,z],λq=>by have z:=J.k2 (jn (by decide) q);simp only[go_sem,z],λ_=>by simp only[go_sem],λq=>by have z:=J.k4 (jn (by decide) q);simp only[go_sem,z],λq=>let ⟨n,z⟩:=J.k5 (jn (by decide) q);⟨n,by simp only[go_sem,z]⟩,λq=>let ⟨n,z⟩:=J.k6 (jn (by decide) q);⟨n,by simp only[go_sem,z]⟩,λq=>J.k8 (jn (by decide) q),g,t,p,rfl,a2,λq=>a3 (xaa (by decide) q),λq=>let ⟨A,w,st,C,z3,z4⟩:=a4 (jn (by decide) q);⟨A,w,st,by simp only[go_sem,C],λq=>by have z:=z3 (jn (by decide) q);simp only[go_sem,z],z4⟩⟩
   | 4,b=>
     injection b with b
     subst b
     simp only[List.getElem_toArray,List.getElem_cons_zero,List.getElem_cons_succ] at f⊢
     have e2:=J.k2 (f 2 (by decide))
     have e3:=J.k3 (f 3 (by decide))
     obtain⟨g,t,p,a1,a2,a3,a4⟩:=J.k7
     subst a1
     refine yZ (by decide) ?_
     simp only[go_sem,e2,e3]
     exact⟨by simp only[go_sem,J.t1],by simp only[go_sem,J.t2],by simp only[go_sem,J.t3],by simp only[go_sem,J.t5],by simp only[go_sem,J.t6],λq=>by have z:=J.k0 (jn (by decide) q);simp only[go_sem,z],λq=>by have z:=J.k1 (jn (by decide) q);simp only[go_sem,z],λq=>by have z:=J.k2 (jn (by decide) q);simp only[go_sem,z],λq=>by have z:=J.k3 (jn (by decide) q);simp only[go_sem,z],λ_=>by simp only[go_sem],λq=>let ⟨n,z⟩:=J.k5 (jn (by decide) q);⟨n,by simp only[go_sem,z]⟩,λq=>let ⟨n,z⟩:=J.k6 (jn (by decide) q);⟨n,by simp only[go_sem,z]⟩,λq=>J.k8 (jn (by decide) q),g,t,p,rfl,a2,λq=>a3 (xaa (by decide) q),λq=>let ⟨A,w,st,C,z3,z4⟩:=a4 (jn (by decide) q);⟨A,w,st,by simp only[go_sem,C],λq=>by have z:=z3 (jn (by decide) q);simp only[go_sem,z],z4⟩⟩
   | 5,b=>
     injection b with b
     subst b
     simp only[List.getElem_toArray,List.getElem_cons_zero,List.getElem_cons_succ] at f⊢
     have V:=J.k0 (f 0 (by decide))
     have e4:=J.k4 (f 4 (by decide))
     obtain⟨g,t,p,a1,a2,a3,a4⟩:=J.k7
     subst a1
     refine wTa (d:=20) (q:=24) (y:=(e.worker,kk.1+(n:Int))) (by decide) rfl V e4 (zo (by rw[G,zg,zJ];omega)) a2 λn5=>?_
     exact⟨by simp only[go_sem,J.t1],by simp only[go_sem,J.t2],by simp only[go_sem,J.t3],by simp only[go_sem,J.t5],by simp only[go_sem,J.t6],λq=>by have z:=J.k0 (jn (by decide) q);simp only[go_sem,z],λq=>by have z:=J.k1 (jn (by decide) q);simp only[go_sem,z],λq=>by have z:=J.k2 (jn (by decide) q);simp only[go_sem,z],λq=>by have z:=J.k3 (jn (by decide) q);simp only[go_sem,z],λq=>by have z:=J.k4 (jn (by decide) q);simp only[go_sem,z],λ_=>⟨n5,by simp only[go_sem]⟩,λq=>let ⟨n,z⟩:=J.k6 (jn (by decide) q);⟨n,by simp only[go_sem,z]⟩,λq=>J.k8 (jn (by decide) q),g,t,p,rfl,a2,λq=>a3 (xaa (by decide) q),λq=>let ⟨A,w,st,C,z3,z4⟩:=a4 (jn (by decide) q);⟨A,w,st,by simp only[go_sem,C],λq=>by have z:=z3 (jn (by decide) q);simp only[go_sem,z],z4⟩⟩
   | 6,b=>
     injection b with b
     subst b
     simp only[List.getElem_toArray,List.getElem_cons_zero,List.getElem_cons_succ] at f⊢
     obtain⟨n5,e5⟩:=J.k5 (f 5 (by decide))
     obtain⟨g,t,p,a1,a2,a3,a4⟩:=J.k7
     subst a1
     refine yZ (by decide) ?_
     simp only[go_sem,e5]
     exact⟨by simp only[go_sem,J.t1],by simp only[go_sem,J.t2],by simp only[go_sem,J.t3],by simp only[go_sem,J.t5],by simp only[go_sem,J.t6],λq=>by have z:=J.k0 (jn (by decide) q);simp only[go_sem,z],λq=>by have z:=J.k1 (jn (by decide) q);simp only[go_sem,z],λq=>by have z:=J.k2 (jn (by decide) q);simp only[go_sem,z],λq=>by have z:=J.k3 (jn (by decide) q);simp only[go_sem,z],λq=>by have z:=J.k4 (jn (by decide) q);simp only[go_sem,z],λq=>let ⟨n,z⟩:=J.k5 (jn (by decide) q);⟨n,by simp only[go_sem,z]⟩,λ_=>⟨IntKind.i64.wrap (n5+1),by simp only[go_sem]⟩,λq=>J.k8 (jn (by decide) q),g,t,p,rfl,a2,λq=>a3 (xaa (by decide) q),λq=>let ⟨A,w,st,C,z3,z4⟩:=a4 (jn (by decide) q);⟨A,w,st,by simp only[go_sem,C],λq=>by have z:=z3 (jn (by decide) q);simp only[go_sem,z],z4⟩⟩
   | 7,b=>
     injection b with b
     subst b
     simp only[List.getElem_toArray,List.getElem_cons_zero,List.getElem_cons_succ] at f⊢
     have V:=J.k0 (f 0 (by decide))
     have e4:=J.k4 (f 4 (by decide))
     obtain⟨g,t,p,a1,a2,a3,a4⟩:=J.k7
     subst a1
     refine k4a (d:=20) (q:=24) (y:=(e.worker,kk.1+(n:Int))) (by decide) rfl V e4 (zo (by rw[G,zg,zJ];omega)) a2 λK c3 w st A C=>?_
     rw[qd]
     exact⟨by simp only[go_sem,J.t1],by simp only[go_sem,J.t2],by simp only[go_sem,J.t3],by simp only[go_sem,J.t5],by simp only[go_sem,J.t6],λq=>by have z:=J.k0 (jn (by decide) q);simp only[go_sem,z],λq=>by have z:=J.k1 (jn (by decide) q);simp only[go_sem,z],λq=>by have z:=J.k2 (jn (by decide) q);simp only[go_sem,z],λq=>by have z:=J.k3 (jn (by decide) q);simp only[go_sem,z],λq=>by have z:=J.k4 (jn (by decide) q);simp only[go_sem,z],λq=>let ⟨n,z⟩:=J.k5 (jn (by decide) q);⟨n,by simp only[go_sem,z]⟩,λq=>let ⟨n,z⟩:=J.k6 (jn (by decide) q);⟨n,by simp only[go_sem,z]⟩,λq=>rfl,K,c3,_,rfl,A,(λq=>by simp at q),λ_=>⟨by rw[a3 W],w,st,by simp only[go_sem],λq=>absurd (J.k8 (jn (by decide) q)) (by rw[W];decide),C⟩⟩
   | 8,b=>
     injection b with b
     subst b
     simp only[List.getElem_toArray,List.getElem_cons_zero,List.getElem_cons_succ] at f⊢
     obtain⟨g,t,p,a1,a2,a3,a4⟩:=J.k7
     subst a1
     obtain⟨a5,w,st,Z,a7,a8⟩:=a4 (f 7 (by decide))
     refine yZ (by decide) ?_
     simp only[go_sem,Z]
     exact⟨by simp only[go_sem,J.t1],by simp only[go_sem,J.t2],by simp only[go_sem,J.t3],by simp only[go_sem,J.t5],by simp only[go_sem,J.t6],λq=>by have z:=J.k0 (jn (by decide) q);simp only[go_sem,z],λq=>by have z:=J.k1 (jn (by decide) q);simp only[go_sem,z],λq=>by have z:=J.k2 (jn (by decide) q);simp only[go_sem,z],λq=>by have z:=J.k3 (jn (by decide) q);simp only[go_sem,z],λq=>by have z:=J.k4 (jn (by decide) q);simp only[go_sem,z],λq=>let ⟨n,z⟩:=J.k5 (jn (by decide) q);⟨n,by simp only[go_sem,z]⟩,λq=>let ⟨n,z⟩:=J.k6 (jn (by decide) q);⟨n,by simp only[go_sem,z]⟩,λ_=>f 7 (by decide),g,t,p,rfl,a2,λq=>a3 (xaa (by decide) q),λq=>⟨a5,w,st,by simp only[go_sem,Z],λ_=>by simp only[go_sem],a8⟩⟩
   | 9,b=>
     injection b with b
     subst b
     simp only[List.getElem_toArray,List.getElem_cons_zero,List.getElem_cons_succ] at f⊢
     have V:=J.k0 (f 0 (by decide))
     obtain⟨n6,e6⟩:=J.k6 (f 6 (by decide))
     obtain⟨g,t,p,a1,a2,a3,a4⟩:=J.k7
     subst a1
     obtain⟨a5,w,st,Z,a7,a8⟩:=a4 (f 7 (by decide))
     have e8:=a7 (f 8 (by decide))
     refine k5a (d:=20) (q:=28) (x:=26) (st:=st) (by decide) rfl V e8 e6 (zo (by rw[G,zg,zJ];omega)) a2 a8 λK u A z5=>?_
     rw[qd]
     exact⟨by simp only[go_sem,J.t1],by simp only[go_sem,J.t2],by simp only[go_sem,J.t3],by simp only[go_sem,J.t5],by simp only[go_sem,J.t6],λq=>by have z:=J.k0 (jn (by decide) q);simp only[go_sem,z],λq=>by have z:=J.k1 (jn (by decide) q);simp only[go_sem,z],λq=>by have z:=J.k2 (jn (by decide) q);simp only[go_sem,z],λq=>by have z:=J.k3 (jn (by decide) q);simp only[go_sem,z],λq=>by have z:=J.k4 (jn (by decide) q);simp only[go_sem,z],λq=>let ⟨n,z⟩:=J.k5 (jn (by decide) q);⟨n,by simp only[go_sem,z]⟩,λq=>let ⟨n,z⟩:=J.k6 (jn (by decide) q);⟨n,by simp only[go_sem,z]⟩,λq=>J.k8 (jn (by decide) q),K,t,p,rfl,A,λq=>a3 (xaa (by decide) q),λq=>⟨a5,w,st,by simp only[go_sem,Z],λ_=>by simp only[go_sem,e8],z5⟩⟩
   | n+10,b=>cases b
  ·rintro S T h' E J
   obtain⟨g,t,p,a1,a2,a3,a4⟩:=J.k7
   obtain⟨a5,_⟩:=a4 (E 7 (by decide))
   subst a1 a5
   have U:H.set id (.raw l (.map g t) [] [])=h.set id (.raw l (.map g t) [] [])++[.box 75 (evC e)]:=by
    rw[G,qt _ _ (by rw[zJ];exact D),qd]
   have F:(List.range (n+1)).map (λn:Nat=>(e.worker,kk.1+(n:Int)))=(List.range n).map (λn:Nat=>(e.worker,kk.1+(n:Int)))++[(e.worker,kk.1+(n:Int))]:=by
    rw[List.range_succ,zw];rfl
   simp only[go_sem,J.t6,η]
   refine⟨cnt - (n+1),by omega,n+1,g,t,by omega,?_,U,by simp only[go_sem,J.t1],by simp only[go_sem,J.t2],by simp only[go_sem,J.t3],by simp only[go_sem,J.t5],(by show i64 _=i64 _;congr 1;omega),rfl⟩
   rw[F,qK, <-R]
   exact a2
 ·have υ:¬ kk.1+(n:Int)<=kk.2:=by simpa using q
  have γ:n=cnt:=by omega
  subst γ
  simp only[go_sem]
  refine⟨.tup [],rfl,.inr ⟨h.set id (.raw l (.map es' c') [] []),[.box 75 (evC e)],rfl,by rw[zJ],rfl,KeepLt.refl.set rfl rfl,rfl,es',c',by rw[N];exact O,rfl⟩⟩
open Go.RowKit
theorem Kra{z k:Int × Int}{ks:List (Int × Int)}:z∈Jq ks k↔z∈ks∨z=k:=by
 unfold Jq
 split
 ·rename_i h
  constructor
  ·exact .inl
  ·rintro (q|rfl)
   ·exact q
   ·exact h
 ·simp
theorem wWa{k:Int × Int}{ks:List (Int × Int)}(h:ks.Nodup):(Jq ks k).Nodup:=by
 unfold Jq
 split
 ·exact h
 ·rename_i e
  rw[List.nodup_append]
  exact⟨h,by simp,λa d b c=>by simp at c;subst c;intro q;subst q;exact e d⟩
theorem jaa{z:Int × Int}:∀ {L ks:List (Int × Int)},z∈L.foldl Jq ks↔z∈ks∨z∈L
 | [],ks=>by simp
 | k::L,ks=>by rw[List.foldl_cons,jaa,Kra,zy,or_assoc]
theorem WN:∀ {L ks:List (Int × Int)},ks.Nodup->(L.foldl Jq ks).Nodup
 | [],_,h=>h
 | k::L,ks,h=>WN (L:=L) (wWa h)
structure Vis (es:Array MapEntry) (seen:Array Nat) (vs:List (Int × Int)):Prop where
 nodup:vs.Nodup
 iff:∀e∈es.toList,∀k,e.key=vt k->(k∈vs↔e.born∈seen)
 sub:∀k∈vs,∃e∈es.toList,e.key=vt k
theorem Wxa(es:Array MapEntry):Vis es #[] []:=⟨.nil,λ_ _ _ _=>by simp,λ_ h=>by cases h⟩
theorem zRa{es:Array MapEntry}{seen:Array Nat}{e:MapEntry}:e∈(leftOf es seen).toList↔e∈es.toList/\e.born∉seen:=by
 unfold leftOf
 rw[Array.toList_filter,zL]
 simp
theorem Ksa{es:Array MapEntry}{c:Nat}{ks:List (Int × Int)}(h:KM es c ks):∀ {a b:MapEntry},a∈es.toList->b∈es.toList->a.born=b.born->a=b:=by
 have key:∀(l:List MapEntry),(l.map (·.born)).Nodup->∀ {a b:MapEntry},a∈l->b∈l->a.born=b.born->a=b:=λl=>by
  induction l with
  | nil=>exact λ_ _ _ h=>by cases h
  | cons x l k=>
    intro g a b j i d
    rw[List.map_cons,List.nodup_cons] at g
    rcases zy.1 j with f|f<;>rcases zy.1 i with e|e
    ·rw[f,e]
    ·subst f;exact absurd (zt.2 ⟨b,e,d.symm⟩) g.1
    ·subst e;exact absurd (zt.2 ⟨a,f,d⟩) g.1
    ·exact k g.2 f e d
 exact λ{a b} j i d=>key _ h.born j i d
theorem Wya{es:Array MapEntry}{c:Nat}{ks:List (Int × Int)}(h:KM es c ks)(e:ks.Nodup):∀ {a b:MapEntry},a∈es.toList->b∈es.toList->a.key=b.key->a=b:=by
 have k:(es.toList.map (·.key)).Nodup:=by
  rw[h.keys]
  exact List.Pairwise.map _ (λa b d q=>d (Vn q)) e
 have key:∀(l:List MapEntry),(l.map (·.key)).Nodup->∀ {a b:MapEntry},a∈l->b∈l->a.key=b.key->a=b:=λl=>by
  induction l with
  | nil=>exact λ_ _ _ h=>by cases h
  | cons x l m=>
    intro e a b j i d
    rw[List.map_cons,List.nodup_cons] at e
    rcases zy.1 j with g|g<;>rcases zy.1 i with f|f
    ·rw[g,f]
    ·subst g;exact absurd (zt.2 ⟨b,f,d.symm⟩) e.1
    ·subst f;exact absurd (zt.2 ⟨a,g,d⟩) e.1
    ·exact m e.2 g f d
 exact λ{a b} j i d=>key _ k j i d
theorem Wg{es:Array MapEntry}{c:Nat}{ks:List (Int × Int)}(h:KM es c ks){e:MapEntry}(a:e∈es.toList):∃k,e.key=vt k/\k∈ks:=by
 have:e.key∈ks.map vt:=by rw[<-h.keys];exact zt.2 ⟨e,a,rfl⟩
 obtain⟨k,d,b⟩:=zt.1 this
 exact⟨k,b.symm,d⟩
theorem Vis.more{es:Array MapEntry}{c:Nat}{ks vs:List (Int × Int)}{seen:Array Nat}(h:KM es c ks)(o:ks.Nodup)(v:Vis es seen vs){e:MapEntry}(n:e∈(leftOf es seen).toList){k:Int × Int}(i:e.key=vt k):Vis es (seen.push e.born) (vs++[k])/\(leftOf es (seen.push e.born)).size<(leftOf es seen).size:=by
 obtain⟨g,p⟩:=zRa.1 n
 have l:k∉vs:=λq=>p ((v.iff e g k i).1 q)
 refine⟨⟨?_,λx j k' d=>?_,λz f=>?_⟩,?_⟩
 ·rw[List.nodup_append]
  exact⟨v.nodup,by simp,λa r b m=>by simp at m;subst m;intro q;subst q;exact l r⟩
 ·rw[zI,zW,v.iff x j k' d,Array.mem_push]
  constructor
  ·rintro (q|q)
   ·exact .inl q
   ·subst q
    have:=Wya h o j g (d.trans i.symm)
    rw[this];exact .inr rfl
  ·rintro (q|q)
   ·exact .inl q
   ·have:=Ksa h j g q
    subst this
    exact .inr (Vn (d.symm.trans i))
 ·rcases zI.1 f with f|f
  ·exact v.sub z f
  ·rw[zW] at f
   subst f
   exact⟨e,g,i⟩
 ·exact left_shrinks es seen e n
theorem Vis.all{es:Array MapEntry}{c:Nat}{ks vs:List (Int × Int)}{seen:Array Nat}(h:KM es c ks)(v:Vis es seen vs)(i:(leftOf es seen).size=0):∀z,z∈vs↔z∈ks:=λz=>by
 have d:∀e∈es.toList,e.born∈seen:=λe a=>by
  by_cases g:e.born∈seen
  ·exact g
  ·have:=zRa.2 ⟨a,g⟩
   rw[<-qF] at i
   rw[zF i] at this
   cases this
 constructor
 ·intro q
  obtain⟨e,a,f⟩:=v.sub z q
  obtain⟨k,b,j⟩:=Wg h a
  rw[Vn (f.symm.trans b)]
  exact j
 ·intro q
  have:vt z∈es.toList.map (·.key):=by rw[h.keys];exact zt.2 ⟨z,q,rfl⟩
  obtain⟨e,a,f⟩:=zt.1 this
  exact(v.iff e a z f).2 (d e a)
theorem xba{α:Type}(l M:List α)(k:Nat)(o:α):(l++M).set (l.length+k) o=l++M.set k o:=by
 rw[zT _ _ (by omega),Nat.add_sub_cancel_left]
theorem OwnS.set_raw{h0 h:List Ob}{ty e:Nat}{x:AV}{rows:List (List AV)}(k:OwnS h0 h ty e x rows){i l:Nat}{ob:Obj}{ks us}(hi:h[i]? =some (.raw l ob ks us))(o:Ob):OwnS h0 (h.set i o) ty e x rows:=by
 rcases k with k|⟨id,st,k1,k2,k3⟩
 ·exact .inl k
 ·refine .inr ⟨id,st,k1,k2,?_⟩
  have:i≠id:=λq=>by rw[q,k3] at hi;cases hi
  rw[zc this]
  exact k3
abbrev HT(h:List Ob)(s:Setup)(a:SA)(q:Fx)(l:Nat)(es:Array MapEntry)(c:Nat):List Ob:=h++[.box 30 (qg s a),.box 77 (fxC q),.raw l (.map es c) [] [],.box 166 [.v (.map (some l))]]
theorem QT{α:Type}[DecidableEq α]:∀ {a b:List α},a.Nodup->(∀x∈a,x∈b)->a.length<=b.length
 | [],_,_,_=>Nat.zero_le _
 | x::a,b,f,e=>by
   obtain⟨h,g⟩:=List.nodup_cons.1 f
   have c:=e x (.head _)
   have:=QT (a:=a) (b:=b.erase x) g λy d=>(List.mem_erase_of_ne (λq=>by subst q;exact h d)).2 (e y (.tail _ d))
   rw[List.length_erase_of_mem c] at this
   have i:=List.length_pos_of_mem c
   rw[List.length_cons]
   omega
theorem jba(s:Setup)(e:Ev):(yj s e).length<=53:=by
 have b:=Jl (wr (qI e.at_ 32054399 - wr (qI s.unit 604800+qI s.cap 604800)))
 have a:=Jl (wr (qI e.at_ 32054399+wr (qI s.unit 604800+qI s.cap 604800)))
 unfold yj Jp yh
 rw[zb,zb,jz]
 simp only
 omega
theorem jca(s:Setup)(l:List Ev)(x:Fx):(ZR s l x).length<=106:=by
 have b:=jba s (Qa l x.ev.id).1
 have a:=jba s x.ev
 unfold ZR
 rw[zg]
 split<;>split<;>simp<;>omega
abbrev HU(h:List Ob)(s:Setup)(a:SA)(q:Fx)(l:Nat)(es:Array MapEntry)(c:Nat)(e:Ev):List Ob:=h++[.box 30 (qg s a),.box 77 (fxC q),.raw l (.map es c) [] [],.box 166 [.v (.map (some l))],.box 75 (evC e)]
theorem QRa(h:List Ob)(s:Setup)(a:SA)(k:SIn h s a)(x:AV)(l:List Ev)(q:Fx)(hx:SlOf h x 11 (l.map evC))(hl:l.length<1048576):
  ACalls Tryz.prog 37 [jg s a,x,.ag (fxC q)] h λr h'=>∃L,h'=h++L/\NoRes L/\New h 2 r ((jp s l q).map jl) L:=by
 have hex:∃r h',(∃L,h'=h++L/\NoRes L/\New h 2 r ((jp s l q).map jl) L)/\ResK h h':=
  ⟨.sl 2 _,_,⟨[],rfl,jm,λ_ _=>⟨rfl,λ_=>rfl⟩⟩,resK_app⟩
 refine jM (N:=50) (rs:=[.tmp 6]) (fn:=Tryz.f37) rfl rfl rfl rfl (qp rfl) rfl (hex) λB=>?_
 refine qG (by decide) ?_
 simp only[go_sem,k.ones]
 refine jR (qG (by decide) ?_)
 simp only[go_sem]
 refine jR (wQa (id:=h.length+2) (j:=h.length+3) (by rw[zG (k:=2) rfl];rfl) (by rw[zG (k:=3) rfl];rfl) λm k0=>?_)
 rw[xba,xba]
 have hH:∀es c,h++[Ob.box 30 (qg s a),.box 77 (fxC q),.raw m (.map es c) [] [],.box 166 [.v (.map (some m))]]=HT h s a q m es c:=λ_ _=>rfl
 simp only[List.set_cons_zero,List.set_cons_succ]
 rw[hH]
 have α:(HT h s a q m #[] k0)[h.length+1]? =some (.box 77 (fxC q)):=by rw[zG (k:=1) rfl];rfl
 have F:∀es c,(HT h s a q m es c).length=h.length+4:=λes c=>by simp
 have g0:∀es c e,(HU h s a q m es c e)[h.length]? =some (.box 30 (qg s a)):=λes c M=>by rw[zK rfl];rfl
 have g1:∀es c e,(HU h s a q m es c e)[h.length+1]? =some (.box 77 (fxC q)):=λes c M=>by rw[zG (k:=1) rfl];rfl
 have g2:∀es c e,(HU h s a q m es c e)[h.length+2]? =some (.raw m (.map es c) [] []):=λes c M=>by rw[zG (k:=2) rfl];rfl
 have g3:∀es c e,(HU h s a q m es c e)[h.length+3]? =some (.box 166 [.v (.map (some m))]):=λes c M=>by rw[zG (k:=3) rfl];rfl
 have g4:∀es c e,(HU h s a q m es c e)[h.length+4]? =some (.box 75 (evC e)):=λes c M=>by rw[zG (k:=4) rfl];rfl
 have p:∀es c es' c' e,(HU h s a q m es c e).set (h.length+2) (.raw m (.map es' c') [] [])=HU h s a q m es' c' e:=λes c es' c' M=>by
  rw[xba]
  rfl
 obtain⟨old,g⟩:∃old,old=Qa l q.ev.id:=⟨_,rfl⟩
 clear hH
 refine qG (by decide) ?_
 simp only[go_sem]
 have Y:∀es c,SlOf (HT h s a q m es c) x 11 (l.map evC):=λes c=>hx.app _
 have kM:∀es c e,SIn (HU h s a q m es c e) s a:=λes c e=>k.app _
 refine jR (xo (λT h'=>∃es c,h'=HU h s a q m es c old.1/\KM es c ((if old.2 && xb q then yj s old.1 else []).foldl Jq [])/\T 5= .ptr (h.length+1) 0/\T 7= .ptr (h.length+3) 0/\T 8= .fn (.func 94) [] [.ptr h.length 0,.ptr (h.length+3) 0]) (by decide) ?_ ?_)
 ·simp only[go_sem,α]
  refine zh (jyb _ x l q.ev.id (Y _ _) hl) ?_
  rintro _ h1 ⟨rfl,rfl⟩
  rw[<-g]
  simp only[go_sem,F]
  cases R:old.2
  ·simp only[go_sem,R,qv]
   exact⟨_,_,rfl,wOa _⟩
  ·simp only[go_sem,R,qv,g1]
   refine zh (X4a q _) ?_
   rintro _ h1 ⟨rfl,rfl⟩
   simp only[go_sem]
   cases q2:xb q
   ·simp only[go_sem,q2]
    exact⟨_,_,rfl,wOa _⟩
   ·simp only[go_sem,q2,g4]
    refine zh (y2a _ s a (kM _ _ _) h.length (h.length+3) (h.length+2) m (g0 _ _ _) (g3 _ _ _) _ _ [] (g2 _ _ _) (wOa _) old.1) ?_
    rintro _ h2 ⟨rfl,es',c',z1,z2⟩
    rw[p] at z2
    subst z2
    simp only[go_sem]
    exact⟨es',c',rfl,z1⟩
 rintro T h' ⟨es1,c1,rfl,z1,t5,t7,t8⟩
 refine xo (λT h'=>∃es c,h'=HU h s a q m es c old.1/\KM es c ((ZR s l q).foldl Jq [])/\T 7= .ptr (h.length+3) 0) (by decide) ?_ ?_
 ·simp only[go_sem,t5,g1]
  refine zh (Yva q _) ?_
  rintro _ h1 ⟨rfl,rfl⟩
  simp only[go_sem]
  cases R:xU q
  ·simp only[go_sem,R,qv]
   refine⟨es1,c1,rfl,?_,by simp only[go_sem,t7]⟩
   unfold ZR
   rw[<-g,R]
   simpa using z1
  ·simp only[go_sem,R,qv,t8,t5,g1]
   refine zh (y2a _ s a (kM _ _ _) h.length (h.length+3) (h.length+2) m (g0 _ _ _) (g3 _ _ _) _ _ _ (g2 _ _ _) z1 q.ev) ?_
   rintro _ h2 ⟨rfl,es',c',z2,z3⟩
   rw[p] at z3
   subst z3
   simp only[go_sem]
   refine⟨es',c',rfl,?_,by simp only[go_sem,t7]⟩
   unfold ZR
   rw[<-g,R,qK]
   simpa using z2
 rintro T h' ⟨es,c,rfl,O,t7⟩
 clear z1 t5 t8
 obtain⟨ks,I⟩:∃ks,ks=(ZR s l q).foldl Jq []:=⟨_,rfl⟩
 rw[<-I] at O
 have hkn:ks.Nodup:=by rw[I];exact WN .nil
 have Q:∀z,z∈ks↔z∈jp s l q:=λz=>by
  unfold jp
  rw[ZS,I,jaa]
  simp
 have β:∀vs:List (Int × Int),vs.Nodup->(∀z∈vs,z∈ks)->vs.length<=106:=λvs h1 h2=>by
  have h3:=QT (b:=ZR s l q) h1 λz A=>by
   have:=(Q z).1 (h2 z A)
   exact ZS.1 this
  have h4:=jca s l q
  omega
 refine qG (by decide) ?_
 simp only[go_sem]
 obtain⟨H,E⟩:∃H,H=HU h s a q m es c old.1:=⟨_,rfl⟩
 have D:=g2 es c old.1
 have K:=g3 es c old.1
 have G:Pre h H:=⟨_,E,zl rfl (zl rfl (zl rfl (zl rfl (zD rfl))))⟩
 have V:H.length=h.length+5:=by rw[E];simp
 rw[<-E] at D K⊢
 clear E g0 g1 g2 g3 g4 p Y kM α F
 refine jR (Z5 (Z5 (zOa [_,_] [] rfl (by decide) ⟨rfl,yZ (by decide) ?_⟩)))
 simp only[go_sem,t7,K]
 refine⟨rfl,wRa (by decide) (id:=h.length+2) (l:=m) (es:=es) (c:=c) rfl (by simp only[go_sem]) D λr=>?_⟩
 simp only[go_sem]
 obtain⟨T1,C⟩:∃T1:Env,T1=upd (upd (upd T 11 (.v (.slice none 0 0))) 37 (.v (.map (some m)))) 38 (.v (.pointer (some ⟨r,0,none⟩))):=⟨_,rfl⟩
 have d:T1 11= .v (.slice none 0 0):=by rw[C];simp only[go_sem]
 have f:T1 38= .v (.pointer (some ⟨r,0,none⟩)):=by rw[C];simp only[go_sem]
 have u:Pre h (H++[.raw r (.mapIter (some m) c #[] c) [] []]):=G.app (zD rfl)
 have gm:(H++[.raw r (.mapIter (some m) c #[] c) [] []])[h.length+2]? =some (.raw m (.map es c) [] []):=ze D
 have gi:(H++[.raw r (.mapIter (some m) c #[] c) [] []])[h.length+5]? =some (.raw r (.mapIter (some m) c #[] c) [] []):=by rw[<-V,zK rfl];rfl
 rw[<-C]
 clear C
 obtain⟨H1,Z⟩:∃H1,H1=H++[.raw r (.mapIter (some m) c #[] c) [] []]:=⟨_,rfl⟩
 rw[<-Z] at u gm gi⊢
 clear Z V D K G t7
 refine VD (xHa (λn T h'=>∃(seen:Array Nat) (vs:List (Int × Int)) (y:AV),Pre h h'/\h'[h.length+2]? =some (.raw m (.map es c) [] [])/\h'[h.length+5]? =some (.raw r (.mapIter (some m) c seen c) [] [])/\OwnS h h' 90 2 y (vs.map jl)/\Vis es seen vs/\T 11=y/\T 38= .v (.pointer (some ⟨r,0,none⟩))/\n=(leftOf es seen).size) (leftOf es #[]).size
  ⟨#[],[],_,u,gm,gi,.inl ⟨rfl,rfl⟩,Wxa es,d,f,rfl⟩ ?_)
 rintro n T2 h' ⟨seen,vs,y,k1,k2,k3,k4,k5,d,f,rfl⟩
 refine Z5 (zOa [_] [_] rfl (by decide) ⟨rfl,QPa (by decide) rfl f k2 k3 O.lt (zp _) (λA=>?_) (λe he=>?_)⟩)
 ·simp only[go_sem]
  refine qG (by decide) ?_
  simp only[go_sem]
  have w:=k5.all O A
  have hvl:=β vs k5.nodup λz A=>(w z).1 A
  refine qG (by decide) ?_
  rcases k4 with⟨rfl,t⟩|⟨id,st,u1,rfl,S⟩
  ·simp only[go_sem,d]
   refine zh (Wwa _ _) ?_
   rintro _ h3 ⟨rfl,rfl⟩
   simp only[go_sem]
   refine jR (qD _ (by decide) ?_)
   simp only[go_sem,d]
   have P:vs=[]:=List.map_eq_nil_iff.1 t
   have ψ:jp s l q=[]:=by
    rw[List.eq_nil_iff_forall_not_mem]
    intro z φ
    have:=(w z).2 ((Q z).2 φ)
    rw[P] at this
    cases this
   obtain⟨L,hL,hN⟩:=k1
   exact⟨.v (.slice none 0 0),by simp only[go_sem],.inl ⟨L,hL,hN,by rw[ψ];exact λ_ _=>⟨rfl,λq=>absurd rfl q⟩⟩⟩
  ·simp only[go_sem,d]
   refine zh (zQb _ id st vs (jp s l q) S (by omega) k5.nodup (Vm _) λz=>(w z).trans (Q z)) ?_
   rintro _ h3 ⟨rfl,rfl⟩
   simp only[go_sem]
   refine jR (qD _ (by decide) ?_)
   simp only[go_sem,d]
   have k1':=k1.set (i:=id) (o:= .row 90 2 ((jp s l q).map jl) st) u1 rfl
   have own:OwnS h (h'.set id (.row 90 2 ((jp s l q).map jl) st)) 90 2 (.tl id st) ((jp s l q).map jl):= .inr ⟨id,st,u1,rfl,zm S⟩
   obtain⟨L,hL,hN⟩:=k1'
   rw[hL] at own⊢
   exact⟨_,by simp only[go_sem],.inl ⟨L,rfl,hN,own.new (zp _)⟩⟩
 ·obtain⟨ι,_⟩:=zRa.1 he
  obtain⟨ky,η,hkm2⟩:=Wg O ι
  obtain⟨v2,v3⟩:=k5.more O hkn he η
  have hvl:=β vs k5.nodup λz A=>by
   obtain⟨x,hx,hk⟩:=k5.sub z A
   obtain⟨k',hk',hm'⟩:=Wg O hx
   rw[Vn (hk.symm.trans hk')]
   exact hm'
  have j1:=k1.set (i:=h.length+5) (o:= .raw r (.mapIter (some m) c (seen.push e.born) c) [] []) (by omega) rfl
  have W:(h'.set (h.length+5) (.raw r (.mapIter (some m) c (seen.push e.born) c) [] []))[h.length+2]? =some (.raw m (.map es c) [] []):=by rw[zc (by omega)];exact k2
  have U:(h'.set (h.length+5) (.raw r (.mapIter (some m) c (seen.push e.born) c) [] []))[h.length+5]? =some (.raw r (.mapIter (some m) c (seen.push e.born) c) [] []):=zm k3
  have j4:=k4.set_raw k3 (.raw r (.mapIter (some m) c (seen.push e.born) c) [] [])
  obtain⟨J,hJ⟩:∃J,J=h'.set (h.length+5) (.raw r (.mapIter (some m) c (seen.push e.born) c) [] []):=⟨_,rfl⟩
  rw[<-hJ] at j1 W U j4⊢
  clear hJ k1 k2 k3 k4
  simp only[go_sem]
  refine qG (by decide) ?_
  simp only[go_sem]
  refine jR (VD (Z5 (zOa [_] [_,_,_] rfl (by decide) ⟨rfl,wSa (by decide) rfl (by simp only[go_sem,f]) W U ι O.born ?_⟩)))
  rw[η]
  simp only[vt,ofV]
  simp only[go_sem]
  refine qD _ (by decide) ?_
  have hJl:=j1.len
  rcases j4 with⟨rfl,t⟩|⟨id,st,u1,rfl,S⟩
  ·simp only[go_sem,d]
   have P:vs=[]:=List.map_eq_nil_iff.1 t
   subst P
   refine⟨_,v3,_,_,_,j1.app (zl rfl (zl rfl (zD rfl))),ze W,ze U,.inr ⟨J.length+2,0,by omega,rfl,?_⟩,v2,rfl,f,rfl⟩
   rw[zG (k:=2) rfl]
   rfl
  ·have γ:(vs.length+1)*17<=140737488355328:=by omega
   have ε:∀M,(J++M)[id]? =some (.row 90 2 (vs.map jl) st):=λM=>ze S
   have hidl:=(zd.1 S).1
   simp only[go_sem,d,ε,zb,γ]
   have j1':=(j1.app (M:=[.box 90 (jl ky),.row 90 2 [jl ky] 0]) (zl rfl (zD rfl))).set (i:=id) (o:= .row 90 2 (vs.map jl++[jl ky]) (st+1)) u1 rfl
   have X:∀ {z:Nat} {l ob ks us},J[z]? =some (.raw l ob ks us)->id≠z:=λA q=>by rw[<-q,S] at A;cases A
   refine⟨_,v3,_,_,_,j1',?_,?_,.inr ⟨id,st+1,u1,rfl,?_⟩,v2,rfl,f,rfl⟩
   ·rw[zc (X W)];exact ze W
   ·rw[zc (X U)];exact ze U
   ·rw[zw]
    exact zm (ε _)
theorem k8a(h:List Ob)(s:Setup)(a:SA)(k:SIn h s a)(x:AV)(l:List Ev)(q:Fx)(b:SlOf h x 11 (l.map evC))(c:l.length<1048576):
  ACalls Tryz.prog 37 [jg s a,x,.ag (fxC q)] h λr h'=>r= .sl 2 ((jp s l q).map jl)/\h'=h:=
 xk (by decide) (Kpa _) (QRa h s a k x l q b c)
end Go.Proofs.YtigdlmpjijhpaaaGreat.Ax
namespace Go.Proofs.YtigdlmpjijhpaaaGreat.Ax
open Go Go.Proofs
set_option maxRecDepth 100000
def zSa(a:List Int)(e:Int)(k:Int × Int):Int:=jJ e (!jt a k.2) 211
theorem jda(a:List Int):∀(L:List (Int × Int)) (e:Int),L.foldl (zSa a) e=jJ e (!L.any λk=>jt a k.2) 211
 | [],e=>by simp[jJ]
 | k::L,e=>by
   rw[List.foldl_cons,jda a L,List.any_cons]
   unfold zSa jJ
   by_cases h:e=0
   ·subst h
    cases jt a k.2<;>cases (L.any λk=>jt a k.2)<;>simp
   ·have:(e==0)=false:=by simpa using h
    simp[this]
theorem wXa(e d:Int):jJ e true d=e:=by simp[jJ]
theorem Wza{l:List (Int × Int)}{i:Nat}(h:i<l.length):(l.map jl)[i]? =some [i64 (l[i]).1,i64 (l[i]).2]:=by rw[zz,zi h];rfl
theorem k9a(s:Setup)(l:List Ev)(x:Fx):(jp s l x).length<=106:=by
 have c:(jp s l x).Nodup:=(Vm _).imp λ{a b} h q=>by subst q;rw[xF] at h;omega
 have e:=QT (b:=ZR s l x) c λz d=>ZS.1 d
 have:=jca s l x
 omega
section
variable {h:List Ob} {d:Nat} {s:Setup} {a:SA} {x c:AV} {rows segs bytes:AV} {q:Cm}
def Kta(s:Setup)(b:Bk)(f:Fx)(x:AV):AV:=if QO s b f==0 then .sl 11 ((jw s b.evs f).1.map evC) else x
theorem jPb(f:h[d]? =some (.box 154 (qN s a x c 0 rows segs bytes q)))(k:SIn h s a)(b:Bk)(hx:SlOf h x 11 (b.evs.map evC))(hl:b.evs.length<262144)(hc:SlOf h c 1 (b.shut.map qz))(J:b.shut.length<1048576)(κ:AV.one x=true):
  ACalls Tryz.prog 78 [.ptr d 0] h λr h'=>r= .tup []/\∃L,h'=h.set d (.box 154 (qN s a (Kta s b q.fx x) c (QO s b q.fx) rows segs bytes q))++L/\NoRes L:=by
 refine zj Tryz.f78 [] 71 rfl rfl rfl rfl rfl rfl (by decide) (⟨_,_,⟨rfl,[],rfl,jm⟩,by rw[zM];exact qj f rfl⟩) λB=>?_
 simp only[go_sem]
 refine zQ rfl [] 0 [(0,0,[]),(1,0,[]),(2,0,[]),(3,0,[]),(5,0,[]),(6,0,[]),(7,0,[]),(8,0,[]),(10,0,[]),(11,0,[]),(12,0,[]),(13,0,[]),(4,0,[]),(9,0,[]),(14,0,[]),(15,0,[]),(16,0,[]),(17,0,[]),(18,0,[]),(19,0,[]),(20,0,[])] rfl (by decide) (by decide) ?_
 simp only[go_sem,f,k.ones]
 refine zh (zFb h s a k x b.evs q.fx hx (by omega)) ?_
 rintro _ h1 ⟨rfl,e1⟩
 rw[e1]
 obtain⟨A,X⟩:∃A,A=jw s b.evs q.fx:=⟨_,rfl⟩
 rw[<-X]
 simp only[go_sem,f]
 refine zh (Xh f (A.2==0) A.2) ?_
 rintro _ h2 ⟨rfl,rfl⟩
 obtain⟨F,C⟩:∃F,F=jJ 0 (A.2==0) A.2:=⟨_,rfl⟩
 rw[<-C]
 have Y:=zm (b:=Ob.box 154 (qN s a x c F rows segs bytes q)) f
 simp only[go_sem,zb]
 refine zh (Xh Y (decide ((A.1.length:Int)<=200)) 210) ?_
 rintro _ h3 ⟨rfl,rfl⟩
 rw[qd]
 obtain⟨j,D⟩:∃j,j=jJ F (decide ((A.1.length:Int)<=200)) 210:=⟨_,rfl⟩
 rw[<-D]
 have P:=zm (b:=Ob.box 154 (qN s a x c j rows segs bytes q)) f
 have V:=hx.keep (.setB (o:= .box 154 (qN s a x c j rows segs bytes q)) f)
 have k2:=k.keep (.setB (o:= .box 154 (qN s a x c j rows segs bytes q)) f)
 simp only[go_sem]
 refine zQ rfl [] 0 [(0,0,[]),(1,0,[]),(2,0,[]),(3,0,[]),(5,0,[]),(6,0,[]),(7,0,[]),(8,0,[]),(10,0,[]),(11,0,[]),(12,0,[]),(13,0,[]),(17,0,[]),(4,0,[]),(9,0,[]),(14,0,[]),(15,0,[]),(16,0,[])] rfl (by decide) (by decide) ?_
 simp only[go_sem,P,k.ones]
 refine zh (k8a _ s a k2 x b.evs q.fx V (by omega)) ?_
 rintro _ h4 ⟨rfl,e4⟩
 rw[e4]
 obtain⟨W,hW⟩:∃W,W=jp s b.evs q.fx:=⟨_,rfl⟩
 have U:=k9a s b.evs q.fx
 rw[<-hW] at U⊢
 simp only[go_sem,zb]
 have Z:∀e M,SlOf (h.set d (.box 154 (qN s a x c e rows segs bytes q))++M) c 1 (b.shut.map qz):=λe M=>(hc.keep (.setB f)).app _
 refine zO (by decide) (λm T h'=>∃(i:Nat) (M:List Ob),i<=W.length/\h'=h.set d (.box 154 (qN s a x c ((W.take i).foldl (zSa b.shut) j) rows segs bytes q))++M/\NoRes M/\T 0= .ptr d 0/\T 2= .sl 11 (A.1.map evC)/\T 50= .sl 2 (W.map jl)/\T 51=i64 W.length/\T 52=i64 i/\m=W.length - i) W.length
  ⟨0,[],by omega,by rw[zM];rfl,jm,by simp only[go_sem],by simp only[go_sem],by simp only[go_sem],by(simp only[go_sem]<;>rfl),by(simp only[go_sem]<;>rfl),rfl⟩ ?_
 rintro m T h' ⟨i,M,hi,rfl,S,t0,t2,t50,t51,t,rfl⟩
 simp only[go_sem,t51,t]
 refine ways (λe=>?_) (λe=>?_)
 ·have u:=dlt e
  have n:=Wza u
  have I:(i:Int)<W.length:=by omega
  have p:(W.take (i+1)).foldl (zSa b.shut) j=zSa b.shut ((W.take i).foldl (zSa b.shut) j) W[i]:=by rw[<-zE u,qK];rfl
  obtain⟨z,hz⟩:∃z,z=W[i]:=⟨_,rfl⟩
  rw[<-hz] at n p
  obtain⟨E,O⟩:∃E,E=(W.take i).foldl (zSa b.shut) j:=⟨_,rfl⟩
  rw[<-O] at p⊢
  obtain⟨H,v⟩:∃H,H=h.set d (.box 154 (qN s a x c E rows segs bytes q))++M:=⟨_,rfl⟩
  have G:H[d]? =some (.box 154 (qN s a x c E rows segs bytes q)):=by rw[v];exact ze (zm f)
  have g:∀M,(H++M)[d]? =some (.box 154 (qN s a x c E rows segs bytes q)):=λM=>ze G
  have R:SlOf H c 1 (b.shut.map qz):=by rw[v];exact Z E M
  have l:d<(h.set d (.box 154 (qN s a x c E rows segs bytes q))).length:=by rw[zJ];exact(zd.1 f).1
  have w:∀e N,(H++N).set d (.box 154 (qN s a x c e rows segs bytes q))=h.set d (.box 154 (qN s a x c e rows segs bytes q))++(M++N):=λe N=>by
   rw[v,zr,qt _ _ l,qd]
  rw[<-v]
  clear v
  simp only[go_sem,t0,t50,t,n,I,zb,Int.toNat_natCast,zf]
  refine zh (W9 (g _) b.shut (R.app _) J z.2) ?_
  rintro _ h6 ⟨rfl,e6⟩
  rw[e6]
  simp only[go_sem]
  refine zh (Xh (g _) (!(b.shut.any (z.2== ·))) 211) ?_
  rintro _ h7 ⟨rfl,rfl⟩
  rw[w]
  simp only[go_sem,t]
  refine⟨W.length - (i+1),by omega,i+1,M++[.box 90 (jl z)],by omega,?_,?_,t0,t2,t50,t51,qn (by omega) rfl,rfl⟩
  ·rw[p]
   rfl
  ·intro o y
   rcases zI.1 y with y|y
   ·exact S o y
   ·exact zD rfl o y
 ·have η:=xr e
  have Q:i=W.length:=by omega
  subst Q
  rw[zV,jda]
  have K:jJ j (!W.any λk=>jt b.shut k.2) 211=QO s b q.fx:=by unfold QO;rw[D,C,X,hW]
  rw[K]
  obtain⟨E,O⟩:∃E,E=QO s b q.fx:=⟨_,rfl⟩
  have l:d<(h.set d (.box 154 (qN s a x c E rows segs bytes q))).length:=by rw[zJ];exact(zd.1 f).1
  have g:∀M,(h.set d (.box 154 (qN s a x c E rows segs bytes q))++M)[d]? =some (.box 154 (qN s a x c E rows segs bytes q)):=λM=>ze (zm f)
  unfold Kta
  rw[<-O]
  simp only[go_sem,t0]
  refine zh (Xh (g M) true 0) ?_
  rintro _ h7 ⟨rfl,rfl⟩
  rw[wXa,qt _ _ l,qd]
  cases q1:E==0
  ·simp only[go_sem,q1]
   exact⟨_,rfl,.inl ⟨rfl,M,rfl,S⟩⟩
  ·simp only[go_sem,q1,t0,t2,g]
   rw[qt _ _ l,qd]
   exact⟨_,rfl,.inl ⟨rfl,M,by rw[X],S⟩⟩
abbrev WAa(q:Cm):Cm:=⟨q.kind,⟨1,q.fx.ev⟩,q.worker,q.week,q.last⟩
theorem WBa(e:h[d]? =some (.box 154 (qN s a x c 0 rows segs bytes q)))(k:SIn h s a)(b:Bk)(j:SlOf h x 11 (b.evs.map evC))(n:b.evs.length<262144)(m:SlOf h c 1 (b.shut.map qz))(f:b.shut.length<1048576)(g:AV.one x=true):
  ACalls Tryz.prog 77 [.ptr d 0] h λr h'=>r= .tup []/\∃L,h'=h.set d (.box 154 (qN s a (Kta s b ⟨1,q.fx.ev⟩ x) c (QO s b ⟨1,q.fx.ev⟩) rows segs bytes (WAa q)))++L/\NoRes L:=by
 refine zj Tryz.f77 [] 9 rfl rfl rfl rfl rfl rfl (by decide) (⟨_,_,⟨rfl,[],rfl,jm⟩,by rw[zM];exact qj e rfl⟩) λB=>?_
 simp only[go_sem,e]
 have i:=zm (b:=Ob.box 154 (qN s a x c 0 rows segs bytes (WAa q))) e
 refine zh (jPb (q:=WAa q) i (k.keep (.setB e)) b (j.keep (.setB e)) n (m.keep (.setB e)) f g) ?_
 rintro _ p ⟨rfl,L,o,l⟩
 rw[o,qd]
 simp only[go_sem]
 exact⟨_,rfl,.inl ⟨rfl,L,rfl,l⟩⟩
end
end Go.Proofs.YtigdlmpjijhpaaaGreat.Ax
namespace Go.Proofs.YtigdlmpjijhpaaaGreat.Ax
open Go Go.RowKit
section
variable {B:Nat} {w w':World} {g g':Gh} {h h' L:List Ob} {P:Program}
theorem zRb(d:HOk B w g h)(hB:B<=w.heap.size){id:Nat}{ty:TypeId}{cs cs':List AV}(c:h[id]? =some (.box ty cs))(i:∀vs:List Value,ARs (ctx w g h) cs vs->ARs (ctx w g (h.set id (.box ty cs'))) cs' vs):Good B w g h w g (h.set id (.box ty cs')):=by
 have f:w.grownBy w ((Ob.box ty cs).blk g id):=⟨rfl,rfl,rfl,zp _,λ_ _ _=>rfl⟩
 have e:=Le.turn (g':=g) (o':= .box ty cs') c rfl f (λ_ _=>rfl) (λ_ _=>rfl) (λb a=> .inl a) (λ_=>⟨rfl,λs j=>by cases j⟩)
 obtain⟨m,vs,k,l⟩:=d.ok id _ c
 exact⟨d.turn c f (λ_ _=>rfl) (λ_ _=>rfl) (λb a=> .inl a) e ⟨m,vs,k,i _ l⟩,e,Below.refl _ _,hB⟩
theorem QSa(f:HOk B w g h)(hB:B<=w.heap.size){id:Nat}{ty:TypeId}{cs cs':List AV}(e:h[id]? =some (.box ty cs)){vs:List Value}(j:∃a:Array Value,w.heap[g.β id]? =some (.cells a ty (0,0))/\a.toList=vs)(k:ARs (ctx w g h) cs' vs):Good B w g h w g (h.set id (.box ty cs')):=by
 have i:w.grownBy w ((Ob.box ty cs).blk g id):=⟨rfl,rfl,rfl,zp _,λ_ _ _=>rfl⟩
 have d:=Le.turn (g':=g) (o':= .box ty cs') e rfl i (λ_ _=>rfl) (λ_ _=>rfl) (λb c=> .inl c) (λ_=>⟨rfl,λs l=>by cases l⟩)
 obtain⟨n,_⟩:=f.ok id _ e
 obtain⟨a,m,rfl⟩:=j
 exact⟨f.turn e i (λ_ _=>rfl) (λ_ _=>rfl) (λb c=> .inl c) d ⟨n,a,m,ARs.le d _ _ k⟩,d,Below.refl _ _,hB⟩
theorem Kz{n:Nat}:∀ {a b:List AV},qy n (a++b)=(qy n a && qy n b)
 | [],_=>rfl
 | x::a,b=>by
   rw[List.cons_append,qy,Kz,qy,Bool.and_assoc]
theorem xca{c:Ctx}:∀ {e:List AV} {x:AV} {bs:List AV} {us:List Value},ARs c (e++x::bs) us->∃b u d,us=b++u::d/\ARs c e b/\AR c x u/\ARs c bs d
 | [],x,bs,us,⟨u,r,h,f,g⟩=>⟨[],u,r,h,rfl,f,g⟩
 | a::e,x,bs,us,⟨u,r,h,f,g⟩=>by
   obtain⟨b,v,d,k,l,j,i⟩:=xca g
   subst k
   exact⟨u::b,v,d,h,⟨u,b,rfl,f,l⟩,j,i⟩
theorem wYa{c:Ctx}:∀ {f:List AV} {x:AV} {bs:List AV} {d b:List Value} {u:Value},ARs c f d->AR c x u->ARs c bs b->ARs c (f++x::bs) (d++u::b)
 | [],x,bs,d,b,u,i,g,h=>by
   have i:d=[]:=i
   subst i
   exact⟨u,b,rfl,g,h⟩
 | a::f,x,bs,d,b,u,⟨v,r,e,k1,k2⟩,g,h=>by
   subst e
   exact⟨v,_,rfl,k1,wYa k2 g h⟩
theorem Kua{n:Nat}{d:Nat}{o:Ob}(a:∀p∈h,Vz n p=true)(b:Vz n o=true):∀p∈h.set d o,Vz n p=true:=xIa a b
theorem Ze{f:FuncId}{ar:List AV}{d:Nat}{ty:TypeId}{e cs:List AV}(j:h[d]? =some (.box ty e))(k:∀n,qy n e=true->qy n cs=true)(c:ACalls P f ar h λr h'=>r= .tup []/\∃L,h'=h.set d (.box ty cs)++L/\NoRes L):
  ACalls P f ar h λr h'=>r= .tup []/\h'=h.set d (.box ty cs):=by
 refine⟨c.1,⟨_,_,⟨rfl,rfl⟩,qj j rfl⟩,λφ o B w g vs q hB i=>?_⟩
 refine(c.2.2 φ o B w g vs q hB i).mono λz w' ⟨v,r,h',g',u,⟨s,L,t,_⟩,_,m,p⟩=>?_
 subst s t
 have l:Upto φ (h.set d (.box ty cs)).length:=by rw[zJ];exact o
 rw[xc l,ji rfl] at m p
 have hid:=q.ids
 have b:=hid _ (qr (qL (φ:=φ) j rfl))
 have b:qy (fill φ h).length e=true:=b
 have a:((fill φ h).set d (.box ty cs)).length=(fill φ h).length:=zJ
 refine⟨v,_,_,g',u,⟨rfl,rfl⟩,qj j rfl,?_,?_⟩
 ·rw[ji rfl]
  exact m.drop a (by rw[a];exact Kua hid (k _ b))
 ·obtain⟨us,x,y⟩:=p
  exact⟨us,x,y⟩
theorem vZ{f:FuncId}{ar:List AV}{d:Nat}{ty:TypeId}{p j i:List AV}{e:Nat}{rows:List (List AV)}(W:0<e)(D:h[d]? =some (.box ty p))(E:∀n,qy n p=true->qy n j=true/\qy n i=true)(hr:∀n,qO n rows=true)
  (c:ACalls P f ar h λr h'=>r= .tup []/\∃L x,h'=h.set d (.box ty (j++x::i))++L/\NoRes L/\New h e x rows L):
  ACalls P f ar h λr h'=>r= .tup []/\h'=h.set d (.box ty (j++ .sl e rows::i)):=by
 refine⟨c.1,⟨_,_,⟨rfl,rfl⟩,qj D rfl⟩,λφ T B w g vs K hB t=>?_⟩
 refine(c.2.2 φ T B w g vs K hB t).mono λe' w' ⟨v,r,h',g',Y,⟨e2,L,x,X,_,m⟩,_,y,I⟩=>?_
 subst e2 X
 have F:Upto φ (h.set d (.box ty (j++x::i))).length:=by rw[zJ];exact T
 rw[xc F,ji rfl] at y I
 have hid:=K.ids
 have q:=qL (φ:=φ) D rfl
 have o:=hid _ (qr q)
 have o:qy (fill φ h).length p=true:=o
 obtain⟨k1,k2⟩:=E _ o
 obtain⟨H,N⟩:∃H,H=fill φ h:=⟨_,rfl⟩
 have C:H.length=h.length:=by rw[N,ju]
 rw[<-N] at y I hid q k1 k2 K⊢
 have l:d<H.length:=(zd.1 q).1
 have G:(H.set d (.box ty (j++x::i))++L)[d]? =some (.box ty (j++x::i)):=by rw[zN (by rw[zJ];exact l),zo l]
 obtain⟨b1,O,b2,b3⟩:=y.ok.ok _ _ G
 obtain⟨u1,u,u2,Z,c2,c3,c4⟩:=xca b3
 have z:=zRb y.ok y.size G (cs':=j++ .bad::i) λvs V=>by
  have S:Le (ctx w' g' (H.set d (.box ty (j++x::i))++L)) (ctx w' g' ((H.set d (.box ty (j++x::i))++L).set d (.box ty (j++ .bad::i)))):=
   Le.turn (g':=g') (o':= .box ty (j++ .bad::i)) G rfl ⟨rfl,rfl,rfl,zp _,λ_ _ _=>rfl⟩ (λ_ _=>rfl) (λ_ _=>rfl) (λb hb=> .inl hb) (λ_=>⟨rfl,λs hs=>by cases hs⟩)
  obtain⟨a1,a,a2,z1,z2,z3,z4⟩:=xca V
  rw[z1]
  exact wYa (ARs.le S _ _ z2) trivial (ARs.le S _ _ z4)
 have A:(H.set d (.box ty (j++x::i))++L).set d (.box ty (j++ .bad::i))=H.set d (.box ty (j++ .bad::i))++L:=by
  rw[qt _ _ (by rw[zJ];exact l),qd]
 rw[A] at z
 have G2:=y.trans z
 have k:(H.set d (.box ty (j++ .bad::i))).length=H.length:=zJ
 have M:=G2.drop k (by
  rw[k]
  refine Kua hid ?_
  show qy H.length (j++ .bad::i)=true
  rw[Kz,qy,k1,k2];rfl)
 have J:SlOf (H.set d (.box ty (j++ .bad::i))++L) x e rows:=m _ (by rw[k,C])
 have Q:AR (ctx w' g' (H.set d (.box ty (j++ .bad::i))++L)) x u:=AR.le z.le _ _ c3
 have R:=J6 z.ok W Q J (λid hid=>by rw[k,C];exact m.root id hid) (hr _)
 have g3:(H.set d (.box ty (j++ .bad::i)))[d]? =some (.box ty (j++ .bad::i)):=zo l
 have U:=QSa M.ok M.size g3 (cs':=j++ .sl e rows::i) (vs:=u1++u::u2) ⟨O,b2,Z⟩ (by
  refine wYa ?_ R ?_
  ·exact ARs.less (vB w' g' _ L) _ _ (by rw[k];exact k1) (ARs.le z.le _ _ c2)
  ·exact ARs.less (vB w' g' _ L) _ _ (by rw[k];exact k2) (ARs.le z.le _ _ c4))
 rw[qd] at U
 refine⟨v,_,_,g',Y,⟨rfl,rfl⟩,qj D rfl,?_,?_⟩
 ·rw[ji rfl, <-N]
  exact M.trans U
 ·obtain⟨us,q1,q2⟩:=I
  exact⟨us,q1,q2⟩
end
end Go.Proofs.YtigdlmpjijhpaaaGreat.Ax
namespace Go.Proofs.YtigdlmpjijhpaaaGreat.Ax
open Go Go.Proofs
set_option maxRecDepth 100000
abbrev xda(l:List Int)(st:Nat):Ob:= .row 3 1 (l.map qz) st
theorem zTa(e:Int):VH (qz e)=e:=rfl
theorem vaa{l:List Int}{i:Nat}{e:Int}(h:l[i]? =some e):(l.map qz)[i]? =some (qz e):=by rw[zz,h];rfl
theorem QTa(p:Int->Bool)(l:List Int):(JV (l.map qz) (λr=>p (VH r))= -1/\∀e∈l,p e=false)∨∃A x R,l=A++x::R/\JV (l.map qz) (λr=>p (VH r))=(A.length:Int)/\p x=true/\∀e∈A,p e=false:=by
 by_cases h:∀e∈l,p e=false
 ·refine .inl ⟨yz λj b=>?_,h⟩
  rw[List.getElem_map,zTa]
  exact h _ (zx _)
 ·right
  induction l with
  | nil=>exact absurd (λe a=>by cases a) h
  | cons y l g=>
    cases c:p y with
    | true=>exact⟨[],y,l,rfl,wX (rows:=(y::l).map qz) (k:=0) (by simp) (λj b=>by omega) c,c,λe a=>by cases a⟩
    | false=>
      obtain⟨A,x,R,rfl,m,d,i⟩:=g (λq=>h λe a=>by
       rcases zy.1 a with rfl|a
       ·exact c
       ·exact q e a)
      have f:∀e∈y::A,p e=false:=λe a=>by
       rcases zy.1 a with rfl|a
       ·exact c
       ·exact i e a
      refine⟨y::A,x,R,rfl,?_,d,f⟩
      refine wX (by simp) (λj b=>?_) ?_
      ·rw[List.getElem_map,zTa]
       have:(y::(A++x::R))[j]'(by simp at b ⊢;omega)=(y::A)[j]:=by
        have q:((y::A)++x::R)[j]'(by simp at b ⊢;omega)=(y::A)[j]:=List.getElem_append_left b
        exact q
       rw[this]
       exact f _ (zx _)
      ·rw[List.getElem_map,zTa]
       have:(y::(A++x::R))[(y::A).length]'(by simp)=x:=by
        rw[List.getElem_of_eq (show y::(A++x::R)=(y::A)++x::R from rfl),List.getElem_append_right (zp _)]
        simp
       rw[this]
       exact d
theorem zUa{p:Int->Bool}{l:List Int}(h:∀e∈l,p e=false):l.filter (λe=> !p e)=l:=List.filter_eq_self.2 λe a=>by simp[h e a]
theorem WCa(h:List Ob)(id st:Nat)(l:List Int)(f:FuncId)(cs:List AV)(p:Int->Bool)(hi:h[id]? =some (xda l st))(hl:l.length<1048576)(S:∀e∈l,∀o L,ACalls Tryz.prog f ([i64 e]++cs) (h.set id o++L) λr h'=>r=bl (p e)/\h'=h.set id o++L):
  ACalls Tryz.prog 167 [.tl id st,.fn (.func f) [] cs] h λr h'=>∃l2,h'=h.set id (xda l2 st)/\(r= .tl id st∨∃n,r= .vw (.tl id st) 1 0 n)/\SlOf h' r 1 ((l.filter λe=> !p e).map qz):=by
 have hex:∃r h',(∃l2,h'=h.set id (xda l2 st)/\(r=AV.tl id st∨∃n,r= .vw (.tl id st) 1 0 n)/\SlOf h' r 1 ((l.filter λe=> !p e).map qz))/\ResK h h':=
  ⟨.tl id st,_,⟨l.filter λe=> !p e,rfl,.inl rfl,by rw[q8,zm hi,kV,if_pos rfl],λ_=>by rw[jO,zm hi,wg]⟩,qj hi rfl⟩
 have V:SlOf h (.tl id st) 1 (l.map qz):=⟨by rw[q8,hi,kV,if_pos rfl],λ_=>by rw[jO,hi,wg]⟩
 have I:ZD h f cs Vza (l.map qz) (λr=>p (VH r)):=λrow E L=>by
  obtain⟨e,he,rfl⟩:=zt.1 E
  have:=S e he (xda l st) L
  rw[qS hi] at this
  exact this
 refine zj Tryz.f167 [.tmp 4] 42 rfl rfl rfl rfl rfl rfl (by decide) (hex) λB=>?_
 simp only[go_sem]
 refine zh (q0b h _ f cs _ _ (by rw[zb];omega) (λr hr=>by obtain⟨e,_,rfl⟩:=zt.1 hr;rfl) V I) ?_
 rintro _ t ⟨rfl,e1⟩
 subst e1
 rcases QTa p l with⟨Q,O⟩|⟨A,x,R,rfl,Q,O,q3⟩
 ·rw[Q]
  simp only[go_sem]
  exact⟨.tl id st,by simp only[go_sem],.inl ⟨l,(qS hi).symm,.inl rfl,by rw[zUa O];exact V⟩⟩
 ·rw[Q]
  have G:((A.length:Int)== -1)=false:=by simp
  simp only[zg,List.length_cons] at hl
  have w1:wr ((A.length:Int)+1)=((A.length+1:Nat):Int):=xE (by omega)
  have y:((A++[x]).filter λe=> !p e)=A:=by rw[qo,zUa q3];simp[O]
  simp only[go_sem,G,w1]
  refine zO (by decide) (λn T h'=>∃(P X c:List Int) (L:List Ob),P++c=A++x::R/\(P.filter λe=> !p e).length+X.length=P.length/\0<X.length/\h'=t.set id (xda ((P.filter λe=> !p e)++(X++c)) st)++L/\T 0= .tl id st/\T 1= .fn (.func f) [] cs/\T 5=i64 (P.filter λe=> !p e).length/\T 6=i64 P.length/\n=c.length) R.length
   ⟨A++[x],[x],R,[],by simp,by rw[y];simp,by simp,by rw[y,zM];exact(qS hi).symm,by simp only[go_sem],by simp only[go_sem],by(simp only[go_sem]<;>rw[y]),by(simp only[go_sem]<;>simp),rfl⟩ ?_
  rintro n T h' ⟨P,X,c,L,j,K,H,rfl,t0,t1,t5,t6,rfl⟩
  have F:∀M o,(t.set id o++M)[id]? =some o:=λM o=>ze (zm hi)
  have z:=congrArg List.length j
  simp only[zg,List.length_cons] at z
  simp only[go_sem,t6,t0,F,zb,zg]
  refine ways (λe=>?_) (λe=>?_)
  ·have g:=dlt e
   cases c with
   | nil=>first|omega|(simp at g;omega)|(simp at g)
   | cons v c=>
   simp only[List.length_cons] at g z
   obtain⟨a,i⟩:∃a,a=P.filter λe=> !p e:=⟨_,rfl⟩
   rw[<-i] at K t5 g⊢
   have hv:v∈A++x::R:=by rw[<-j];simp
   have J:(a++(X++v::c))[P.length]? =some v:=by
    rw[<-zr]
    rw[zX (by rw[zg];omega),show P.length - (a++X).length=0 by rw[zg];omega]
    rfl
   have Z:((a++(X++v::c)).map qz)[P.length]? =some [i64 v]:=vaa J
   have la:(P.length:Int)<((a.length+(X.length+(c.length+1)):Nat):Int):=by omega
   have W:wr ((P.length:Int)+1)=((P.length+1:Nat):Int):=xE (by omega)
   have w3:wr ((a.length:Int)+1)=((a.length+1:Nat):Int):=xE (by omega)
   obtain⟨l3,m⟩:∃l3,l3=a++(X++v::c):=⟨_,rfl⟩
   rw[<-m] at Z⊢
   have k:l3.length=a.length+(X.length+(c.length+1)):=by rw[m];simp
   simp only[go_sem,t6,t0,t1,F,Z,la,k,zb,Int.toNat_natCast,zf]
   refine zh (S v hv _ _) ?_
   rintro _ h3 ⟨rfl,e3⟩
   subst e3
   simp only[go_sem]
   have q:(P++[v])++c=A++x::R:=by rw[<-j];simp
   refine ways (λs=>?_) (λs=>?_)
   ·have s:p v=false:=by simpa using s
    have d:((P++[v]).filter λe=> !p e)=a++[v]:=by rw[qo, <-i];simp[s]
    cases X with
    | nil=>simp at H
    | cons U X=>
    have C:l3=a++U::(X++v::c):=m
    have rb:(l3.map qz)[a.length]? =some [i64 U]:=vaa (by rw[C];simp)
    have N:∀M o w,(t.set id o++M).set id w=t.set id w++M:=λM o w=>by
     rw[jj (zm hi),qd]
    have lb:(a.length:Int)<((a.length+(X.length+1+(c.length+1)):Nat):Int):=by omega
    have D:(l3.map qz).set a.length [i64 v]=(a++v::(X++v::c)).map qz:=by
     show(l3.map qz).set a.length (qz v)=_
     rw[<-List.map_set,C,zT _ _ (zp _),Nat.sub_self]
     rfl
    have hq:(a++[v])++((X++[v])++c)=a++v::(X++v::c):=by simp
    simp only[go_sem,N,rb,lb,k,zb,Int.toNat_natCast,zf,t0,t1,t5,t6,F,W,w3,D]
    exact⟨c.length,by simp,P++[v],X++[v],c,L,q,by rw[d];simp at K ⊢;omega,by simp,by rw[d,hq],by rw[d];exact jZ (by simp),jZ (by simp),rfl⟩
   ·have s:p v=true:=by simpa using s
    have d:((P++[v]).filter λe=> !p e)=a:=by rw[qo, <-i];simp[s]
    simp only[go_sem,t6,W]
    exact⟨c.length,by simp,P++[v],X++[v],c,L,q,by rw[d];simp;omega,by simp,by rw[d,m];simp,t0,t1,by rw[d];exact t5,jZ (by simp),rfl⟩
  ·have μ:=xr e
   have hR:c=[]:=zF (by omega)
   subst hR
   rw[zM] at j
   subst j
   obtain⟨a,i⟩:∃a,a=(A++x::R).filter λe=> !p e:=⟨_,rfl⟩
   rw[<-i] at t5 K⊢
   have f0:(0:Int)<=(a.length:Int):=by omega
   have Y:(a.length:Int)<=((a.length+X.length:Nat):Int):=by omega
   have f2:a.length+X.length - a.length=X.length:=by omega
   have N:∀M o w,(t.set id o++M).set id w=t.set id w++M:=λM o w=>by
    rw[jj (zm hi),qd]
   have hz:List.take a.length ((a++X).map qz)++(List.replicate X.length ([i64 0]:List AV)++List.drop (a.length+X.length) ((a++X).map qz))=(a++List.replicate X.length (0:Int)).map qz:=by
    rw[List.drop_of_length_le (by simp),zM,zw,zw,qE (by simp),List.take_of_length_le (by simp),List.map_replicate]
    rfl
   have f3:((a.length:Nat):Int)<=((a.length+X.length:Nat):Int):=Y
   simp only[go_sem,t0,t5,F,N,hz,zb,zg,ja,f0,Y,f2,Int.toNat_natCast,true_and,or_true,Int.le_refl,zp,Option.bind_some,ja,List.all_replicate,ite_self,Nat.sub_zero]
   have g:=(zd.1 hi).1
   refine⟨.vw (.tl id st) 1 0 a.length,by simp only[go_sem],.inr ⟨t.set id _,L,rfl,by simp,by simp[AV.lt,g],KeepLt.refl.set rfl (yD _),⟨_,rfl,.inr ⟨_,rfl⟩,?_⟩⟩⟩
   have u:=zm (b:=xda (a++List.replicate X.length (0:Int)) st) hi
   refine⟨?_,λ_=>?_⟩
   ·rw[vC,q8,u,kV,if_pos rfl,Option.bind_some,if_pos ⟨by simp,.inr (by rw[jO,u,wg])⟩]
    simp
   ·rw[Q1,jO,u,wg]
    rfl
def je(p:RowV × List Flg):List AV:=vf p.1++[.sl 2 (p.2.map xW)]
theorem Kva(l:List (RowV × List Flg)):((l.map je).all λr=>r.length==27 && r.all AV.one)=true:=by
 rw[qa];intro r a;obtain⟨s,_,rfl⟩:=zt.1 a;rfl
theorem Zp{n:Nat}:∀l:List (RowV × List Flg),qO n (l.map je)=true
 | []=>rfl
 | p::l=>by
   rw[List.map_cons,qO,Zp l]
   simp only[je,vf,List.cons_append,List.nil_append,qy,AV.lt,V4,Bool.and_self]
structure DE (h:List Ob) (d:Nat) (mk:AV->Ob) (y:AV) (rows:List (List AV)) (H:List Ob):Prop where
 eq:∃M,H=h.set d (mk y)++M/\NoRes M
 own:OwnS h H 45 27 y rows
theorem DE.base{h:List Ob}{d:Nat}{mk:AV->Ob}:DE h d mk (.v (.slice none 0 0)) [] (h.set d (mk (.v (.slice none 0 0)))):=⟨⟨[],by rw[zM],jm⟩,.inl ⟨rfl,rfl⟩⟩
theorem DE.one{h:List Ob}{d:Nat}{mk:AV->Ob}{y y':AV}{rows rows':List (List AV)}{H:List Ob}(k:DE h d mk y rows H)(b:d<h.length){N:List Ob}(e:NoRes N)(a:OwnS h ((H++N).set d (mk y')) 45 27 y' rows'):DE h d mk y' rows' ((H++N).set d (mk y')):=by
 obtain⟨M,f,c⟩:=k.eq
 refine⟨⟨M++N,?_,λo a=>?_⟩,a⟩
 ·rw[f,zr,qt _ _ (by rw[zJ];exact b),qd]
 ·rcases zI.1 a with a|a
  ·exact c o a
  ·exact e o a
theorem DE.two{h:List Ob}{d:Nat}{mk:AV->Ob}{y y':AV}{rows rows':List (List AV)}{H:List Ob}(k:DE h d mk y rows H)(c:d<h.length){N:List Ob}(f:NoRes N){id:Nat}{o:Ob}(hid:h.length<=id)(b:o.isRes=false)(i:OwnS h (((H++N).set id o).set d (mk y')) 45 27 y' rows'):DE h d mk y' rows' (((H++N).set id o).set d (mk y')):=by
 obtain⟨M,g,e⟩:=k.eq
 refine⟨⟨(M++N).set (id - h.length) o,?_,λp a=>?_⟩,i⟩
 ·rw[g,zr,zT _ _ (by rw[zJ];exact hid),zJ,qt _ _ (by rw[zJ];exact c),qd]
 ·rcases List.mem_or_eq_of_mem_set a with a|a
  ·rcases zI.1 a with a|a
   ·exact e p a
   ·exact f p a
  ·rw[a];exact b
section
variable {h:List Ob} {d:Nat} {s:Setup} {a:SA} {x c:AV} {segs:AV} {q:Cm}
theorem vba{s:Setup}(f:SFit s)(p:qw):Fit (vk s p)/\Fit (vk s p+1):=by
 have d: -1<=vk s p/\vk s p<9223372036854775807:=by
  cases b:z6 s
  ·have:vk s p= -1:=by simp[vk,b]
   omega
  ·cases a:rok p
   ·have:vk s p= -1:=by simp[vk,a]
    omega
   ·rcases yFa b a with⟨e,_⟩|⟨j,t,c,g,_⟩
    ·omega
    ·have:=(zd.1 c).1
     have:=f.nt
     omega
 constructor<;>(unfold Fit;omega)
theorem zVa{s:Setup}(f:SFit s)(l:List Ev)(w wk:Int)(c:l.length<=1000):(Fit (qi s l w wk).1.tier/\Fit ((qi s l w wk).1.tier+1))/\(qi s l w wk).2.length<524288:=by
 unfold qi
 split
 ·exact⟨by constructor<;>(show Fit _;unfold Fit;first|exact(by decide:(-9223372036854775808:Int)<= -1/\(-1:Int)<=9223372036854775807)|exact(by decide:(-9223372036854775808:Int)<= -1+1/\(-1+1:Int)<=9223372036854775807)),by show 0<524288;decide⟩
 ·constructor
  ·show Fit (ite _ (vk s _) (-1))/\Fit (ite _ (vk s _) (-1)+1)
   split
   ·exact vba f _
   ·constructor<;>(unfold Fit;decide)
  ·have b:= @WK s (evR s w l) w
   have a:(evR s w l).length<=l.length:=j2a s w l
   have d:=qh (λg=>QJ (evR s w l) g==wk) (qA s (evR s w l) w).2
   show(List.filter _ _).length<_
   omega
theorem Wh{s:Setup}{b:Bk}{wk:Int}:(xf s b wk).length=s.rates.length:=by rw[xf,zb,jz]
theorem wZa{s:Setup}{b:Bk}{wk:Int}{n:Nat}(h:n<s.rates.length):((xf s b wk).take (n+1)).map je=((xf s b wk).take n).map je++[je (qi s b.evs (n:Int) wk)]:=by
 have a:n<(xf s b wk).length:=by rw[Wh];exact h
 rw[show(xf s b wk).take (n+1)=(xf s b wk).take n++[(xf s b wk)[n]] from(zE a).symm,zw]
 simp[xf]
theorem Kwa(i:h[d]? =some (.box 154 (qN s a x c 0 (.v (.slice none 0 0)) segs (.v (.slice none 0 0)) q)))(k:SIn h s a)(f:SFit s)(b:Bk)(hx:SlOf h x 11 (b.evs.map evC))(X:b.evs.length<=1000)(hc:SlOf h c 1 (b.shut.map qz))(O:b.shut.length<1048576)(U:s.rates.length<4096):
  ACalls Tryz.prog 83 [.ptr d 0] h λr h'=>r= .tup []/\∃L y,h'=h.set d (.box 154 (qN s a x c (if jt b.shut q.week then 0 else 212) y segs (if jt b.shut q.week then .sl 1 ((jY (xf s b q.week)).1.map xA) else .v (.slice none 0 0)) q))++L/\NoRes L/\
   New h 27 y ((if jt b.shut q.week then xf s b q.week else []).map je) L:=by
 have hex:∃r h',(r=AV.tup []/\∃L y,h'=h.set d (.box 154 (qN s a x c (if jt b.shut q.week then 0 else 212) y segs (if jt b.shut q.week then .sl 1 ((jY (xf s b q.week)).1.map xA) else .v (.slice none 0 0)) q))++L/\NoRes L/\
   New h 27 y ((if jt b.shut q.week then xf s b q.week else []).map je) L)/\ResK h h':=
  ⟨_,_,⟨rfl,[],.sl 27 _,rfl,jm,λ_ _=>⟨rfl,λ_=>rfl⟩⟩,by rw[zM];exact qj i rfl⟩
 refine zj Tryz.f83 [] 64 rfl rfl rfl rfl rfl rfl (by decide) (hex) λB=>?_
 simp only[go_sem,i]
 refine zh (W9 i b.shut hc O q.week) ?_
 rintro _ h1 ⟨rfl,e1⟩
 rw[e1,show b.shut.any (q.week== ·)=jt b.shut q.week from rfl]
 simp only[go_sem]
 refine zh (Xh i (jt b.shut q.week) 212) ?_
 rintro _ Y ⟨rfl,rfl⟩
 cases η:jt b.shut q.week
 ·rw[show jJ 0 false 212=212 from rfl]
  simp only[go_sem]
  exact⟨_,rfl,.inl ⟨rfl,[],_,by rw[zM],jm,λ_ _=>⟨rfl,λq=>absurd rfl q⟩⟩⟩
 ·rw[show jJ 0 true 212=0 from rfl,qS i]
  have t:=(zd.1 i).1
  simp only[go_sem,i,k.r.rows,zb]
  refine zO (by decide) (λm T H=>∃(n:Nat) (y:AV),n<=s.rates.length/\DE h d (λy=> .box 154 (qN s a x c 0 y segs (.v (.slice none 0 0)) q)) y (((xf s b q.week).take n).map je) H/\T 0= .ptr d 0/\T 18=i64 s.rates.length/\T 19=i64 n/\m=s.rates.length - n) s.rates.length
   ⟨0,_,by omega,by have:=DE.base (h:=h) (d:=d) (mk:=λy=> .box 154 (qN s a x c 0 y segs (.v (.slice none 0 0)) q));rw[qS i] at this;exact this,by simp only[go_sem],by(simp only[go_sem]<;>rfl),by(simp only[go_sem]<;>rfl),rfl⟩ ?_
  rintro m T H ⟨n,y,hn,A,t0,P,j,rfl⟩
  simp only[go_sem,P,j]
  have Q:=zm (b:=Ob.box 154 (qN s a x c 0 y segs (.v (.slice none 0 0)) q)) i
  obtain⟨M,G,hM⟩:=A.eq
  have o:H[d]? =some (.box 154 (qN s a x c 0 y segs (.v (.slice none 0 0)) q)):=by rw[G];exact ze Q
  have kk:RowsK h H:=by rw[G];exact λid ty e xs st hh=>ze (RowsK.setB i id ty e xs st hh)
  have k3:=k.keep kk
  have R:=hx.keep kk
  have δ:h.length<=H.length:=by rw[G];simp
  refine ways (λe=>?_) (λe=>?_)
  ·have J:=dlt e
   simp only[go_sem]
   refine zQ rfl [.res] 1 [(0,0,[]),(1,0,[]),(2,0,[]),(3,0,[]),(4,0,[]),(6,0,[]),(7,0,[]),(8,0,[]),(9,0,[]),(11,0,[]),(12,0,[]),(13,0,[]),(14,0,[]),(16,0,[]),(17,0,[]),(18,0,[]),(19,0,[]),(20,0,[]),(5,0,[]),(10,0,[]),(15,0,[]),(21,0,[]),(22,0,[5]),(23,0,[]),(24,0,[]),(25,0,[]),(26,0,[]),(27,0,[]),(28,0,[])] rfl (by decide) (by decide) ?_
   have g:∀M,(H++M)[d]? =some (.box 154 (qN s a x c 0 y segs (.v (.slice none 0 0)) q)):=λM=>ze o
   simp only[go_sem,g,t0,j]
   refine zh (ztb _ s a (k3.app _) f x b.evs n q.week (R.app _) X) ?_
   rintro _ h3 ⟨rfl,K⟩
   rw[K]
   have u:=wZa (s:=s) (b:=b) (wk:=q.week) J
   obtain⟨W,hW⟩:∃W,W=qi s b.evs n q.week:=⟨_,rfl⟩
   rw[<-hW] at u⊢
   rcases A.own with⟨rfl,F⟩|⟨id,st,V,rfl,u3⟩
   ·simp only[go_sem,g,j,vf,List.cons_append,List.nil_append]
    refine⟨s.rates.length - (n+1),by omega,n+1,.tl (H.length+1) 0,by omega,?_,by assumption,by assumption,qn (by omega) rfl,rfl⟩
    refine A.one t (zl rfl (zD rfl)) ?_
    refine OwnS.setB (.inr ⟨_,0,by omega,rfl,?_⟩) (g _)
    rw[u,F,zG (k:=1) rfl];rfl
   ·have D:∀M,(H++M)[id]? =some (.row 45 27 (((xf s b q.week).take n).map je) st):=λM=>ze u3
    have C:((((xf s b q.week).take n).map je).length+1)*233<=140737488355328:=by
     rw[zb,zH]
     omega
    have l:∀M o',((H++M).set id o')[d]? =some (.box 154 (qN s a x c 0 (.tl id st) segs (.v (.slice none 0 0)) q)):=λM o'=>by
     rw[zc (by omega)];exact g M
    simp only[go_sem,g,j,D,C,l,vf,List.cons_append,List.nil_append]
    refine⟨s.rates.length - (n+1),by omega,n+1,.tl id (st+1),by omega,?_,by assumption,by assumption,qn (by omega) rfl,rfl⟩
    refine A.two t (zD rfl) V rfl ?_
    refine OwnS.setB (.inr ⟨id,st+1,V,rfl,?_⟩) (l _ _)
    rw[u]
    exact zm (D _)
  ·have ζ:=xr e
   have I:n=s.rates.length:=by omega
   subst I
   have S:(xf s b q.week).take s.rates.length=xf s b q.week:=by rw[<-Wh (s:=s) (b:=b) (wk:=q.week),zV]
   rw[S] at A
   simp only[go_sem,t0,o]
   have N:(xf s b q.week).map je=((xf s b q.week).map λp:RowV × List Flg=>(⟨p.1,.sl 2 (p.2.map xW),p.2⟩:RwA)).map λq=>vA q.1 q.2.1:=by rw[xH];rfl
   have z:kJ ((xf s b q.week).map λp:RowV × List Flg=>(⟨p.1,.sl 2 (p.2.map xW),p.2⟩:RwA))=xf s b q.week:=by rw[kJ,xH];exact List.map_id _
   refine zh (Kha H y _ (by rw[<-N];exact A.own.rows) (λp hp=>by
    obtain⟨r,hr,rfl⟩:=zt.1 hp
    obtain⟨w,_,rfl⟩:=zt.1 hr
    have:=zVa f b.evs (w:Int) q.week X
    exact⟨⟨rfl,λ_=>rfl⟩,this.1,this.2⟩) (by rw[zb,Wh];exact U)) ?_
   rintro _ h3 ⟨rfl,K⟩
   rw[K,z]
   simp only[go_sem,o]
   have E:New h 27 y ((xf s b q.week).map je) M:=by
    have Z:=A.own
    rw[G] at Z
    have:=Z.new (by rw[zJ];exact zp _)
    exact λY e=>this Y (by rw[e,zJ])
   refine⟨_,rfl,.inl ⟨rfl,M,y,?_,hM,E⟩⟩
   rw[G,qt _ _ (by rw[zJ];exact t),qd]
end
open Go.Shelf Go.RowKit Go.Lib Go.Sort
def XT(x:Int):List Value:=[.int .i64 x]
theorem jQb(d:Array Int)(j:Nat)(h:j<d.size):(flatK XT 1 d)[j]! = .int .i64 d[j]! :=by
 rw[get_flatK _ _ _ _ (by omega),Nat.div_one,Nat.mod_one];rfl
theorem Kxa(w:World)(blk off:Nat)(d:Array Int):putRow (Value.int .i64) w blk off d=putRow id w blk off (flatK XT 1 d):=by
 have:putCells (Value.int .i64) off d=putCells id off (flatK XT 1 d):=by
  funext c
  unfold putCells
  apply Array.ext_getElem?
  intro k
  simp only[Array.getElem?_mapIdx,size_flatK,Nat.mul_one,id]
  cases c[k]? with
  | none=>rfl
  | some y=>
    simp only[Option.map_some]
    by_cases a:off<=k/\k<off+d.size
    ·rw[if_pos a,if_pos a,jQb d _ (by omega)]
    ·rw[if_neg a,if_neg a]
 unfold putRow
 rw[this]
theorem w0a{n:Int}{l:List Int}(d:n∉l)(h:l.Pairwise (· < ·)):(l++[n]).mergeSort (λx y=>decide (x<=y))=Xk n l:=by
 have i:=List.mergeSort_perm (l++[n]) (λx y:Int=>decide (x<=y))
 have e:=List.pairwise_mergeSort (le:=λx y:Int=>decide (x<=y)) (λa b c p q=>by
  simp only[decide_eq_true_eq] at *; omega) (λa b=>by
  simp only[Bool.or_eq_true,decide_eq_true_eq];omega) (l++[n])
 have g:=Wc d h
 have f:((l++[n]).mergeSort λx y=>decide (x<=y)).Perm (Xk n l):=i.trans ((List.perm_append_comm).trans (q8a n l).symm)
 refine List.Perm.eq_of_pairwise (le:=λa b:Int=>a<=b) (λa b _ _ p q=>by omega) ?_ ?_ f
 ·exact e.imp λp=>by simpa using p
 ·exact g.imp λp=>by omega
theorem Kya(h:List Ob)(id st:Nat)(l:List Int)(H:h[id]? =some (.row 3 1 (l.map qz) st))(X:l.length<1099511627776)(A:l≠[]):
  ACalls Tryz.prog 166 [.tl id st] h λr h'=>r= .tup []/\h'=h.set id (.row 3 1 ((l.mergeSort λx y=>decide (x<=y)).map qz) st):=by
 refine⟨by kernel_rfl,⟨_,_,⟨rfl,rfl⟩,qj H rfl⟩,?_⟩
 intro φ Y B w g vs L hB k
 have m:(fill φ h)[id]? =some (.row 3 1 (l.map λx=>(XT x).map .v) st):=qL H rfl
 obtain⟨v1,R,rfl,⟨_,C,t⟩,F⟩:=k
 have F:R=[]:=F
 subst F
 have U:v1=g.cur id:=(t st (by simp[ctx,m,Ob.tok])).2 rfl
 obtain⟨W,Z,cells,S,J⟩:=L.ok id _ m
 rw[zwa] at J
 have P:=Ve J
 subst P
 have a:∀x,(XT x).length=1:=λ_=>rfl
 rcases S.2 with⟨_,f⟩|⟨o,cap,cur,f,O,u,G,N,K,M⟩
 ·exfalso
  simp at f
  exact A f
 ·have f:g.cur id=_:=f
  simp only[zb] at f G M
  have D:l.length*1<=cur.size:=by rw[K];exact Nat.mul_le_mul_right _ G
  have I:∀j,j<l.length*1->cur[j]? =some ((XT l.toArray[j / 1]!)[j % 1]!):=λj q=>by
   rw[<-Vj XT 1 (by decide) a l j q, <-M,qZ,if_pos q,qC]
  have Q:Holds (Value.int .i64) w o 0 l.toArray:=λj q=>by
   have q:j<l.length:=by simpa using q
   refine⟨?_,?_⟩
   ·simp only[World.cell?,u,Nat.zero_add]
    have:=I j (by omega)
    rw[Nat.div_one,Nat.mod_one] at this
    exact this
   ·simp[World.frozen?,u]
  have i:Calls Tryz.prog 166 _ _ _:=AnyG.slices_Sort_int WDa o 0 cap l w Q (qM.1 u).1 (by omega)
  rw[U,f]
  refine i.mono ?_
  rintro e w' ⟨rfl,n,os,rfl⟩
  rw[Kxa]
  obtain⟨c,s⟩:∃c,c=(l.mergeSort λx y=>decide (x<=y)).toArray:=⟨_,rfl⟩
  have E:(l.mergeSort λx y=>decide (x<=y))=c.toList:=by rw[s]
  rw[E,show c.toList.toArray=c from Array.toArray_toList]
  have z:c.size=l.length:=by rw[s];simp
  have V:(flatK XT 1 c).toList=Zh XT c.toList:=WF XT 1 (by decide) a c.toList
  have p:(flatK XT 1 c).size=l.length*1:=by simp[z]
  have d:=Zv (w':=grow (putRow _root_.id (Sort.ahead w n) o 0 (flatK XT 1 c)) os) (v':=g.cur id) (st':=st) (xs':=c.toList.map λx=>(XT x).map .v) (cells:=Zh XT c.toList) L hB m (by simp[a]) (by rw[f];exact VS w o n _ os)
   ⟨by rw[XH XT 1 a];simp,.inr ⟨o,cap,_,by simp[f,z],O,Y8 w o n _ os u,by simp[z];exact G,N,by simp[putCells];rw[K,Nat.mul_one],by
    have:=Y9 (flatK XT 1 c) cur (by rw[p];exact D)
    rw[V,p] at this
    simpa [z] using this⟩⟩ (by rw[zwa];exact JI _) (.inl ⟨rfl,rfl⟩) (λb T=> .inl T)
  rw[<-ji rfl] at d
  exact⟨_,_,_,_,rfl,⟨rfl,rfl⟩,qj H rfl,d, #[],rfl,rfl⟩
