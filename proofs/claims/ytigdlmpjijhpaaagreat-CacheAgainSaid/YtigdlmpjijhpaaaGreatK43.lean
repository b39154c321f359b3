import Derived.Test.YtigdlmpjijhpaaaGreatKA
import Derived.Test.YtigdlmpjijhpaaaGreatK42
import Derived.Test.YtigdlmpjijhpaaaGreatK38
import Derived.Test.YtigdlmpjijhpaaaGreatK34
import Derived.Test.YtigdlmpjijhpaaaGreatK35
import Derived.Test.YtigdlmpjijhpaaaGreatK36
import Derived.Test.YtigdlmpjijhpaaaGreatK37
set_option linter.all false
namespace Go.Proofs.YtigdlmpjijhpaaaGreat.Ax
open Go Go.Proofs
set_option maxRecDepth 100000
theorem xca{S:Nat->Bool}{i j:Nat}(h:j≠i)(q:(if j=i then true else S j)=false):S j=false:=by rw[if_neg h] at q;exact q
theorem jn{S:Nat->Bool}{i j:Nat}(h:j≠i)(q:(if j=i then true else S j)=true):S j=true:=by rw[if_neg h] at q;exact q
structure JT (H:List Ob) (id l i3 j:Nat) (e:Ev) (w:Int) (ks:List (Int × Int)) (u1 u5:AV) (S:Nat->Bool) (T:Env) (h:List Ob):Prop where
 t1:T 1=u1
 t2:T 2= .ptr j 0
 t3:T 3= .ptr i3 0
 t5:T 5=u5
 t6:T 6=i64 w
 k0:S 0=true->T 20= .v (.map (some l))
 k1:S 1=true->T 21= .ptr i3 1
 k2:S 2=true->T 22=i64 e.worker
 k3:S 3=true->T 23=i64 w
 k4:S 4=true->T 24= .ag [i64 e.worker,i64 w]
 k5:S 5=true->∃n,T 25=i64 n
 k6:S 6=true->∃n,T 26=i64 n
 k8:S 8=true->S 7=true
 k7:∃es c ks',h=H.set id (.raw l (.map es c) [] [])/\KM es c ks'/\(S 7=false->ks'=ks)/\(S 7=true->ks'=Jq ks (e.worker,w)/\∃(n:Int) (st:Nat),T 27= .tup [i64 n,i64 st]/\(S 8=true->T 28=i64 st)/\∃x∈es.toList,x.born=st)
theorem y8a(h:List Ob)(s:Setup)(a:SA)(k:SIn h s a)(i j id l:Nat)(hi:h[i]? =some (.box 30 (qg s a)))(hj:h[j]? =some (.box 166 [.v (.map (some l))]))(es:Array MapEntry)(c:Nat)(ks:List (Int × Int))(hid:h[id]? =some (.raw l (.map es c) [] []))(hm:KM es c ks)(e:Ev):
  ACalls Tryz.prog 94 [evV e,.ptr i 0,.ptr j 0] h λr h'=>r= .tup []/\∃es' c',KM es' c' ((yk s e).foldl Jq ks)/\h'=h.set id (.raw l (.map es' c') [] []):=by
 obtain⟨kk,N⟩:∃kk,kk=yi s e.at_:=⟨_,rfl⟩
 have hb:(0<=kk.1/\kk.1<53)/\0<=kk.2/\kk.2<53:=by rw[N];exact⟨Jo _,Jo _⟩
 obtain⟨cnt,U⟩:∃cnt,cnt=(kk.2 - kk.1+1).toNat:=⟨_,rfl⟩
 have χ:∀M,(h++M)[j]? =some (.box 166 [.v (.map (some l))]):=λM=>ze hj
 have κ:∀M,(h++M)[i]? =some (.box 30 (qg s a)):=λM=>ze hi
 have I:yk s e=(List.range cnt).map λn:Nat=>(e.worker,kk.1+(n:Int)):=by
  unfold yk Jp
  rw[kE, <-N, <-U]
  rfl
 have hex:∃r h',(r=AV.tup []/\∃es' c',KM es' c' ((yk s e).foldl Jq ks)/\h'=h.set id (.raw l (.map es' c') [] []))/\ResK h h':=by
  have D:∀(L:List (Int × Int)) (es:Array MapEntry) (c:Nat) (ks:List (Int × Int)),KM es c ks->∃es' c',KM es' c' (L.foldl Jq ks):=λL=>by
   induction L with
   | nil=>exact λes c ks h=>⟨es,c,h⟩
   | cons y L ih=>
     intro es c ks h
     obtain⟨es',c',_,_,_,h2,_⟩:=zQa (⟨#[.map es c],λ_ _=>0,0,default, #[]⟩:World) 0 y h rfl
     exact ih es' c' _ h2
  obtain⟨es',c',h2⟩:=D (yk s e) es c ks hm
  exact⟨_,_,⟨rfl,es',c',h2,rfl⟩,qi hid rfl⟩
 refine zi Tryz.f94 [] 29 rfl rfl rfl rfl rfl rfl (by decide) (hex) λB=>?_
 simp only[go_sem,κ,k.ones]
 refine zg (zHb _ s a (k.app _) e.at_) ?_
 rintro _ h1 ⟨rfl,e1⟩
 rw[e1, <-N]
 simp only[go_sem,XO]
 refine zI (by decide) (λm T h'=>∃(n:Nat) (es':Array MapEntry) (c':Nat),n<=cnt/\KM es' c' (((List.range n).map λn:Nat=>(e.worker,kk.1+(n:Int))).foldl Jq ks)/\h'=h.set id (.raw l (.map es' c') [] [])++[.box 75 (evC e)]/\T 1= .ptr i 0/\T 2= .ptr j 0/\T 3= .ptr h.length 0/\T 5=i64 kk.2/\T 6=i64 (kk.1+(n:Int))/\m=cnt - n) cnt
  ⟨0,es,c,by omega,hm,by rw[qS hid],by simp only[go_sem],by simp only[go_sem],by simp only[go_sem],by simp only[go_sem],by(simp only[go_sem]<;>simp),rfl⟩ ?_
 rintro m T h' ⟨n,es',c',hn,O,rfl,t1,t2,t3,t5,t6,rfl⟩
 simp only[go_sem,t6,t5]
 refine ways (λq=>?_) (λq=>?_)
 ·have σ:kk.1+(n:Int)<=kk.2:=by simpa using q
  have φ:n<cnt:=by omega
  have ζ:IntKind.wrap .i64 (kk.1+(n:Int)+1)=kk.1+(n:Int)+1:=qp (n:=kk.1+(n:Int)+1) (by unfold Fit;omega)
  simp only[go_sem]
  obtain⟨H,G⟩:∃H,H=h.set id (.raw l (.map es' c') [] [])++[.box 75 (evC e)]:=⟨_,rfl⟩
  have E:=(zd.1 hid).1
  have X:H[id]? =some (.raw l (.map es' c') [] []):=by rw[G,zO (by rw[zN];exact E),zp E]
  have R:id≠j:=λq=>by rw[q,hj] at hid;cases hid
  have α:∀o,(H.set id o)[j]? =some (.box 166 [.v (.map (some l))]):=λo=>by
   rw[zc R,G]
   refine ze ?_
   rw[zc R]
   exact hj
  have ι:∀o,(H.set id o)[h.length]? =some (.box 75 (evC e)):=λo=>by
   rw[zc (by omega),G,zM (by rw[zN])]
   rfl
  rw[<-G]
  obtain⟨Z,W⟩:∃Z,Z=((List.range n).map λn:Nat=>(e.worker,kk.1+(n:Int))).foldl Jq ks:=⟨_,rfl⟩
  rw[<-W] at O
  refine jS (WGa (by kernel_rfl) (by decide) ?_ (JT H id l h.length j e (kk.1+(n:Int)) Z (.ptr i 0) (i64 kk.2)) ⟨by simp only[go_sem,t1],by simp only[go_sem,t2],by simp only[go_sem,t3],by simp only[go_sem,t5],by simp only[go_sem,t6],(λq=>by cases q),(λq=>by cases q),(λq=>by cases q),(λq=>by cases q),(λq=>by cases q),(λq=>by cases q),(λq=>by cases q),(λq=>by cases q),es',c',Z,by rw[qS X],O,λ_=>rfl,λq=>by cases q⟩ ?_ ?_)
  ·intro i o b
   match i,b with
   | 0,b=>injection b with b;subst b;rfl
   | 1,b=>injection b with b;subst b;rfl
   | 2,b=>injection b with b;subst b;rfl
   | 3,b=>injection b with b;subst b;rfl
   | 4,b=>injection b with b;subst b;rfl
   | 5,b=>injection b with b;subst b;rfl
   | 6,b=>injection b with b;subst b;rfl
   | 7,b=>injection b with b;subst b;rfl
   | 8,b=>injection b with b;subst b;rfl
   | 9,b=>injection b with b;subst b;rfl
   | n+10,b=>cases b
  ·rintro i o S T h' b Q f J
   match i,b with
   | 0,b=>
     injection b with b
     subst b
     simp only[List.getElem_toArray,List.getElem_cons_zero,List.getElem_cons_succ] at f⊢
     obtain⟨g,t,p,a1,a2,a3,a4⟩:=J.k7
     subst a1
     refine y7 (by decide) ?_
     simp only[go_sem,J.t2,α]
     exact⟨by simp only[go_sem,J.t1],by simp only[go_sem,J.t2],by simp only[go_sem,J.t3],by simp only[go_sem,J.t5],by simp only[go_sem,J.t6],λ_=>by simp only[go_sem],λq=>by have z:=J.k1 (jn (by decide) q);simp only[go_sem,z],λq=>by have z:=J.k2 (jn (by decide) q);simp only[go_sem,z],λq=>by have z:=J.k3 (jn (by decide) q);simp only[go_sem,z],λq=>by have z:=J.k4 (jn (by decide) q);simp only[go_sem,z],λq=>let ⟨n,z⟩:=J.k5 (jn (by decide) q);⟨n,by simp only[go_sem,z]⟩,λq=>let ⟨n,z⟩:=J.k6 (jn (by decide) q);⟨n,by simp only[go_sem,z]⟩,λq=>J.k8 (jn (by decide) q),g,t,p,rfl,a2,λq=>a3 (xca (by decide) q),λq=>let ⟨A,w,st,C,z3,z4⟩:=a4 (jn (by decide) q);⟨A,w,st,by simp only[go_sem,C],λq=>by have z:=z3 (jn (by decide) q);simp only[go_sem,z],z4⟩⟩
   | 1,b=>
     injection b with b
     subst b
     simp only[List.getElem_toArray,List.getElem_cons_zero,List.getElem_cons_succ] at f⊢
     obtain⟨g,t,p,a1,a2,a3,a4⟩:=J.k7
     subst a1
     refine y7 (by decide) ?_
     simp only[go_sem,J.t3]
     exact⟨by simp only[go_sem,J.t1],by simp only[go_sem,J.t2],by simp only[go_sem,J.t3],by simp only[go_sem,J.t5],by simp only[go_sem,J.t6],λq=>by have z:=J.k0 (jn (by decide) q);simp only[go_sem,z],λ_=>by simp only[go_sem],λq=>by have z:=J.k2 (jn (by decide) q);simp only[go_sem,z],λq=>by have z:=J.k3 (jn (by decide) q);simp only[go_sem,z],λq=>by have z:=J.k4 (jn (by decide) q);simp only[go_sem,z],λq=>let ⟨n,z⟩:=J.k5 (jn (by decide) q);⟨n,by simp only[go_sem,z]⟩,λq=>let ⟨n,z⟩:=J.k6 (jn (by decide) q);⟨n,by simp only[go_sem,z]⟩,λq=>J.k8 (jn (by decide) q),g,t,p,rfl,a2,λq=>a3 (xca (by decide) q),λq=>let ⟨A,w,st,C,z3,z4⟩:=a4 (jn (by decide) q);⟨A,w,st,by simp only[go_sem,C],λq=>by have z:=z3 (jn (by decide) q);simp only[go_sem,z],z4⟩⟩
   | 2,b=>
     injection b with b
     subst b
     simp only[List.getElem_toArray,List.getElem_cons_zero,List.getElem_cons_succ] at f⊢
     have e1:=J.k1 (f 1 (by decide))
     obtain⟨g,t,p,a1,a2,a3,a4⟩:=J.k7
     subst a1
     refine y7 (by decide) ?_
     simp only[go_sem,e1,ι]
     exact⟨by simp only[go_sem,J.t1],by simp only[go_sem,J.t2],by simp only[go_sem,J.t3],by simp only[go_sem,J.t5],by simp only[go_sem,J.t6],λq=>by have z:=J.k0 (jn (by decide) q);simp only[go_sem,z],λq=>by have z:=J.k1 (jn (by decide) q);simp only[go_sem,z],λ_=>by simp only[go_sem],λq=>by have z:=J.k3 (jn (by decide) q);simp only[go_sem,z],λq=>by have z:=J.k4 (jn (by decide) q);simp only[go_sem,z],λq=>let ⟨n,z⟩:=J.k5 (jn (by decide) q);⟨n,by simp only[go_sem,z]⟩,λq=>let ⟨n,z⟩:=J.k6 (jn (by decide) q);⟨n,by simp only[go_sem,z]⟩,λq=>J.k8 (jn (by decide) q),g,t,p,rfl,a2,λq=>a3 (xca (by decide) q),λq=>let ⟨A,w,st,C,z3,z4⟩:=a4 (jn (by decide) q);⟨A,w,st,by simp only[go_sem,C],λq=>by have z:=z3 (jn (by decide) q);simp only[go_sem,z],z4⟩⟩
   | 3,b=>
     injection b with b
     subst b
     simp only[List.getElem_toArray,List.getElem_cons_zero,List.getElem_cons_succ] at f⊢
     obtain⟨g,t,p,a1,a2,a3,a4⟩:=J.k7
     subst a1
     refine y7 (by decide) ?_
     simp only[go_sem,J.t6]
     exact⟨by simp only[go_sem,J.t1],by simp only[go_sem,J.t2],by simp only[go_sem,J.t3],by simp only[go_sem,J.t5],by simp only[go_sem,J.t6],λq=>by have z:=J.k0 (jn (by decide) q);simp only[go_sem,z],λq=>by have z:=J.k1 (jn (by decide) q);simp only[go_sem,z],λq=>by have z:=J.k2 (jn (by decide) q);simp only[go_sem,z],λ_=>by simp only[go_sem],λq=>by have z:=J.k4 (jn (by decide) q);simp only[go_sem,z],λq=>let ⟨n,z⟩:=J.k5 (jn (by decide) q);⟨n,by simp only[go_sem,z]⟩,λq=>let ⟨n,z⟩:=J.k6 (jn (by decide) q);⟨n,by simp only[go_sem,z]⟩,λq=>J.k8 (jn (by decide) q),g,t,p,rfl,a2,λq=>a3 (xca (by decide) q),λq=>let ⟨A,w,st,C,z3,z4⟩:=a4 (jn (by decide) q);⟨A,w,st,by simp only[go_sem,C],λq=>by have z:=z3 (jn (by decide) q);simp only[go_sem,z],z4⟩⟩
   | 4,b=>
     injection b with b
     subst b
     simp only[List.getElem_toArray,List.getElem_cons_zero,List.getElem_cons_succ] at f⊢
     have e2:=J.k2 (f 2 (by decide))
     have e3:=J.k3 (f 3 (by decide))
     obtain⟨g,t,p,a1,a2,a3,a4⟩:=J.k7
     subst a1
     refine y7 (by decide) ?_
     simp only[go_sem,e2,e3]
     exact⟨by simp only[go_sem,J.t1],by simp only[go_sem,J.t2],by simp only[go_sem,J.t3],by simp only[go_sem,J.t5],by simp only[go_sem,J.t6],λq=>by have z:=J.k0 (jn (by decide) q);simp only[go_sem,z],λq=>by have z:=J.k1 (jn (by decide) q);simp only[go_sem,z],λq=>by have z:=J.k2 (jn (by decide) q);simp only[go_sem,z],λq=>by have z:=J.k3 (jn (by decide) q);simp only[go_sem,z],λ_=>by simp only[go_sem],λq=>let ⟨n,z⟩:=J.k5 (jn (by decide) q);⟨n,by simp only[go_sem,z]⟩,λq=>let ⟨n,z⟩:=J.k6 (jn (by decide) q);⟨n,by simp only[go_sem,z]⟩,λq=>J.k8 (jn (by decide) q),g,t,p,rfl,a2,λq=>a3 (xca (by decide) q),λq=>let ⟨A,w,st,C,z3,z4⟩:=a4 (jn (by decide) q);⟨A,w,st,by simp only[go_sem,C],λq=>by have z:=z3 (jn (by decide) q);simp only[go_sem,z],z4⟩⟩
   | 5,b=>
     injection b with b
     subst b
     simp only[List.getElem_toArray,List.getElem_cons_zero,List.getElem_cons_succ] at f⊢
     have V:=J.k0 (f 0 (by decide))
     have e4:=J.k4 (f 4 (by decide))
     obtain⟨g,t,p,a1,a2,a3,a4⟩:=J.k7
     subst a1
     refine wZa (d:=20) (q:=24) (y:=(e.worker,kk.1+(n:Int))) (by decide) rfl V e4 (zp (by rw[G,zf,zN];omega)) a2 λn5=>?_
     exact⟨by simp only[go_sem,J.t1],by simp only[go_sem,J.t2],by simp only[go_sem,J.t3],by simp only[go_sem,J.t5],by simp only[go_sem,J.t6],λq=>by have z:=J.k0 (jn (by decide) q);simp only[go_sem,z],λq=>by have z:=J.k1 (jn (by decide) q);simp only[go_sem,z],λq=>by have z:=J.k2 (jn (by decide) q);simp only[go_sem,z],λq=>by have z:=J.k3 (jn (by decide) q);simp only[go_sem,z],λq=>by have z:=J.k4 (jn (by decide) q);simp only[go_sem,z],λ_=>⟨n5,by simp only[go_sem]⟩,λq=>let ⟨n,z⟩:=J.k6 (jn (by decide) q);⟨n,by simp only[go_sem,z]⟩,λq=>J.k8 (jn (by decide) q),g,t,p,rfl,a2,λq=>a3 (xca (by decide) q),λq=>let ⟨A,w,st,C,z3,z4⟩:=a4 (jn (by decide) q);⟨A,w,st,by simp only[go_sem,C],λq=>by have z:=z3 (jn (by decide) q);simp only[go_sem,z],z4⟩⟩
   | 6,b=>
     injection b with b
     subst b
     simp only[List.getElem_toArray,List.getElem_cons_zero,List.getElem_cons_succ] at f⊢
     obtain⟨n5,e5⟩:=J.k5 (f 5 (by decide))
     obtain⟨g,t,p,a1,a2,a3,a4⟩:=J.k7
     subst a1
     refine y7 (by decide) ?_
     simp only[go_sem,e5]
     exact⟨by simp only[go_sem,J.t1],by simp only[go_sem,J.t2],by simp only[go_sem,J.t3],by simp only[go_sem,J.t5],by simp only[go_sem,J.t6],λq=>by have z:=J.k0 (jn (by decide) q);simp only[go_sem,z],λq=>by have z:=J.k1 (jn (by decide) q);simp only[go_sem,z],λq=>by have z:=J.k2 (jn (by decide) q);simp only[go_sem,z],λq=>by have z:=J.k3 (jn (by decide) q);simp only[go_sem,z],λq=>by have z:=J.k4 (jn (by decide) q);simp only[go_sem,z],λq=>let ⟨n,z⟩:=J.k5 (jn (by decide) q);⟨n,by simp only[go_sem,z]⟩,λ_=>⟨IntKind.i64.wrap (n5+1),by simp only[go_sem]⟩,λq=>J.k8 (jn (by decide) q),g,t,p,rfl,a2,λq=>a3 (xca (by decide) q),λq=>let ⟨A,w,st,C,z3,z4⟩:=a4 (jn (by decide) q);⟨A,w,st,by simp only[go_sem,C],λq=>by have z:=z3 (jn (by decide) q);simp only[go_sem,z],z4⟩⟩
   | 7,b=>
     injection b with b
     subst b
     simp only[List.getElem_toArray,List.getElem_cons_zero,List.getElem_cons_succ] at f⊢
     have V:=J.k0 (f 0 (by decide))
     have e4:=J.k4 (f 4 (by decide))
     obtain⟨g,t,p,a1,a2,a3,a4⟩:=J.k7
     subst a1
     refine vaa (d:=20) (q:=24) (y:=(e.worker,kk.1+(n:Int))) (by decide) rfl V e4 (zp (by rw[G,zf,zN];omega)) a2 λK c3 w st A C=>?_
     rw[qd]
     exact⟨by simp only[go_sem,J.t1],by simp only[go_sem,J.t2],by simp only[go_sem,J.t3],by simp only[go_sem,J.t5],by simp only[go_sem,J.t6],λq=>by have z:=J.k0 (jn (by decide) q);simp only[go_sem,z],λq=>by have z:=J.k1 (jn (by decide) q);simp only[go_sem,z],λq=>by have z:=J.k2 (jn (by decide) q);simp only[go_sem,z],λq=>by have z:=J.k3 (jn (by decide) q);simp only[go_sem,z],λq=>by have z:=J.k4 (jn (by decide) q);simp only[go_sem,z],λq=>let ⟨n,z⟩:=J.k5 (jn (by decide) q);⟨n,by simp only[go_sem,z]⟩,λq=>let ⟨n,z⟩:=J.k6 (jn (by decide) q);⟨n,by simp only[go_sem,z]⟩,λq=>rfl,K,c3,_,rfl,A,(λq=>by simp at q),λ_=>⟨by rw[a3 Q],w,st,by simp only[go_sem],λq=>absurd (J.k8 (jn (by decide) q)) (by rw[Q];decide),C⟩⟩
   | 8,b=>
     injection b with b
     subst b
     simp only[List.getElem_toArray,List.getElem_cons_zero,List.getElem_cons_succ] at f⊢
     obtain⟨g,t,p,a1,a2,a3,a4⟩:=J.k7
     subst a1
     obtain⟨a5,w,st,Y,a7,a8⟩:=a4 (f 7 (by decide))
     refine y7 (by decide) ?_
     simp only[go_sem,Y]
     exact⟨by simp only[go_sem,J.t1],by simp only[go_sem,J.t2],by simp only[go_sem,J.t3],by simp only[go_sem,J.t5],by simp only[go_sem,J.t6],λq=>by have z:=J.k0 (jn (by decide) q);simp only[go_sem,z],λq=>by have z:=J.k1 (jn (by decide) q);simp only[go_sem,z],λq=>by have z:=J.k2 (jn (by decide) q);simp only[go_sem,z],λq=>by have z:=J.k3 (jn (by decide) q);simp only[go_sem,z],λq=>by have z:=J.k4 (jn (by decide) q);simp only[go_sem,z],λq=>let ⟨n,z⟩:=J.k5 (jn (by decide) q);⟨n,by simp only[go_sem,z]⟩,λq=>let ⟨n,z⟩:=J.k6 (jn (by decide) q);⟨n,by simp only[go_sem,z]⟩,λ_=>f 7 (by decide),g,t,p,rfl,a2,λq=>a3 (xca (by decide) q),λq=>⟨a5,w,st,by simp only[go_sem,Y],λ_=>by simp only[go_sem],a8⟩⟩
   | 9,b=>
     injection b with b
     subst b
     simp only[List.getElem_toArray,List.getElem_cons_zero,List.getElem_cons_succ] at f⊢
     have V:=J.k0 (f 0 (by decide))
     obtain⟨n6,e6⟩:=J.k6 (f 6 (by decide))
     obtain⟨g,t,p,a1,a2,a3,a4⟩:=J.k7
     subst a1
     obtain⟨a5,w,st,Y,a7,a8⟩:=a4 (f 7 (by decide))
     have e8:=a7 (f 8 (by decide))
     refine vba (d:=20) (q:=28) (x:=26) (st:=st) (by decide) rfl V e8 e6 (zp (by rw[G,zf,zN];omega)) a2 a8 λK u A z5=>?_
     rw[qd]
     exact⟨by simp only[go_sem,J.t1],by simp only[go_sem,J.t2],by simp only[go_sem,J.t3],by simp only[go_sem,J.t5],by simp only[go_sem,J.t6],λq=>by have z:=J.k0 (jn (by decide) q);simp only[go_sem,z],λq=>by have z:=J.k1 (jn (by decide) q);simp only[go_sem,z],λq=>by have z:=J.k2 (jn (by decide) q);simp only[go_sem,z],λq=>by have z:=J.k3 (jn (by decide) q);simp only[go_sem,z],λq=>by have z:=J.k4 (jn (by decide) q);simp only[go_sem,z],λq=>let ⟨n,z⟩:=J.k5 (jn (by decide) q);⟨n,by simp only[go_sem,z]⟩,λq=>let ⟨n,z⟩:=J.k6 (jn (by decide) q);⟨n,by simp only[go_sem,z]⟩,λq=>J.k8 (jn (by decide) q),K,t,p,rfl,A,λq=>a3 (xca (by decide) q),λq=>⟨a5,w,st,by simp only[go_sem,Y],λ_=>by simp only[go_sem,e8],z5⟩⟩
   | n+10,b=>cases b
  ·rintro S T h' D J
   obtain⟨g,t,p,a1,a2,a3,a4⟩:=J.k7
   obtain⟨a5,_⟩:=a4 (D 7 (by decide))
   subst a1 a5
   have P:H.set id (.raw l (.map g t) [] [])=h.set id (.raw l (.map g t) [] [])++[.box 75 (evC e)]:=by
    rw[G,qr _ _ (by rw[zN];exact E),qd]
   have F:(List.range (n+1)).map (λn:Nat=>(e.worker,kk.1+(n:Int)))=(List.range n).map (λn:Nat=>(e.worker,kk.1+(n:Int)))++[(e.worker,kk.1+(n:Int))]:=by
    rw[List.range_succ,zw];rfl
   simp only[go_sem,J.t6,ζ]
   refine⟨cnt - (n+1),by omega,n+1,g,t,by omega,?_,P,by simp only[go_sem,J.t1],by simp only[go_sem,J.t2],by simp only[go_sem,J.t3],by simp only[go_sem,J.t5],(by show i64 _=i64 _;congr 1;omega),rfl⟩
   rw[F,qK, <-W]
   exact a2
 ·have ο:¬ kk.1+(n:Int)<=kk.2:=by simpa using q
  have γ:n=cnt:=by omega
  subst γ
  simp only[go_sem]
  refine⟨.tup [],rfl,.inr ⟨h.set id (.raw l (.map es' c') [] []),[.box 75 (evC e)],rfl,by rw[zN],rfl,KeepLt.refl.set rfl rfl,rfl,es',c',by rw[I];exact O,rfl⟩⟩
open Go.RowKit
theorem KBa{z k:Int × Int}{ks:List (Int × Int)}:z∈Jq ks k↔z∈ks∨z=k:=by
 unfold Jq
 split
 ·rename_i h
  constructor
  ·exact .inl
  ·rintro (q|rfl)
   ·exact q
   ·exact h
 ·simp
theorem w2a{k:Int × Int}{ks:List (Int × Int)}(h:ks.Nodup):(Jq ks k).Nodup:=by
 unfold Jq
 split
 ·exact h
 ·rename_i d
  rw[List.nodup_append]
  exact⟨h,by simp,λa e b c=>by simp at c;subst c;intro q;subst q;exact d e⟩
theorem jea{z:Int × Int}:∀ {L ks:List (Int × Int)},z∈L.foldl Jq ks↔z∈ks∨z∈L
 | [],ks=>by simp
 | k::L,ks=>by rw[List.foldl_cons,jea,KBa,zx,or_assoc]
theorem WO:∀ {L ks:List (Int × Int)},ks.Nodup->(L.foldl Jq ks).Nodup
 | [],_,h=>h
 | k::L,ks,h=>WO (L:=L) (w2a h)
structure Vis (es:Array MapEntry) (seen:Array Nat) (vs:List (Int × Int)):Prop where
 nodup:vs.Nodup
 iff:∀e∈es.toList,∀k,e.key=vu k->(k∈vs↔e.born∈seen)
 sub:∀k∈vs,∃e∈es.toList,e.key=vu k
theorem WJa(es:Array MapEntry):Vis es #[] []:=⟨.nil,λ_ _ _ _=>by simp,λ_ h=>by cases h⟩
theorem zUa{es:Array MapEntry}{seen:Array Nat}{e:MapEntry}:e∈(leftOf es seen).toList↔e∈es.toList/\e.born∉seen:=by
 unfold leftOf
 rw[Array.toList_filter,zT]
 simp
theorem KCa{es:Array MapEntry}{c:Nat}{ks:List (Int × Int)}(h:KM es c ks):∀ {a b:MapEntry},a∈es.toList->b∈es.toList->a.born=b.born->a=b:=by
 have key:∀(l:List MapEntry),(l.map (·.born)).Nodup->∀ {a b:MapEntry},a∈l->b∈l->a.born=b.born->a=b:=λl=>by
  induction l with
  | nil=>exact λ_ _ _ h=>by cases h
  | cons x l k=>
    intro g a b j i d
    rw[List.map_cons,List.nodup_cons] at g
    rcases zx.1 j with f|f<;>rcases zx.1 i with e|e
    ·rw[f,e]
    ·subst f;exact absurd (zr.2 ⟨b,e,d.symm⟩) g.1
    ·subst e;exact absurd (zr.2 ⟨a,f,d⟩) g.1
    ·exact k g.2 f e d
 exact λ{a b} j i d=>key _ h.born j i d
theorem WKa{es:Array MapEntry}{c:Nat}{ks:List (Int × Int)}(h:KM es c ks)(e:ks.Nodup):∀ {a b:MapEntry},a∈es.toList->b∈es.toList->a.key=b.key->a=b:=by
 have m:(es.toList.map (·.key)).Nodup:=by
  rw[h.keys]
  exact List.Pairwise.map _ (λa b d q=>d (Vp q)) e
 have key:∀(l:List MapEntry),(l.map (·.key)).Nodup->∀ {a b:MapEntry},a∈l->b∈l->a.key=b.key->a=b:=λl=>by
  induction l with
  | nil=>exact λ_ _ _ h=>by cases h
  | cons x l k=>
    intro e a b j i d
    rw[List.map_cons,List.nodup_cons] at e
    rcases zx.1 j with g|g<;>rcases zx.1 i with f|f
    ·rw[g,f]
    ·subst g;exact absurd (zr.2 ⟨b,f,d.symm⟩) e.1
    ·subst f;exact absurd (zr.2 ⟨a,g,d⟩) e.1
    ·exact k e.2 g f d
 exact λ{a b} j i d=>key _ m j i d
theorem Wi{es:Array MapEntry}{c:Nat}{ks:List (Int × Int)}(h:KM es c ks){e:MapEntry}(a:e∈es.toList):∃k,e.key=vu k/\k∈ks:=by
 have:e.key∈ks.map vu:=by rw[<-h.keys];exact zr.2 ⟨e,a,rfl⟩
 obtain⟨k,d,b⟩:=zr.1 this
 exact⟨k,b.symm,d⟩
theorem Vis.more{es:Array MapEntry}{c:Nat}{ks vs:List (Int × Int)}{seen:Array Nat}(h:KM es c ks)(r:ks.Nodup)(v:Vis es seen vs){e:MapEntry}(n:e∈(leftOf es seen).toList){k:Int × Int}(g:e.key=vu k):Vis es (seen.push e.born) (vs++[k])/\(leftOf es (seen.push e.born)).size<(leftOf es seen).size:=by
 obtain⟨i,p⟩:=zUa.1 n
 have l:k∉vs:=λq=>p ((v.iff e i k g).1 q)
 refine⟨⟨?_,λx j k' d=>?_,λz f=>?_⟩,?_⟩
 ·rw[List.nodup_append]
  exact⟨v.nodup,by simp,λa o b m=>by simp at m;subst m;intro q;subst q;exact l o⟩
 ·rw[zK,zW,v.iff x j k' d,Array.mem_push]
  constructor
  ·rintro (q|q)
   ·exact .inl q
   ·subst q
    have:=WKa h r j i (d.trans g.symm)
    rw[this];exact .inr rfl
  ·rintro (q|q)
   ·exact .inl q
   ·have:=KCa h j i q
    subst this
    exact .inr (Vp (d.symm.trans g))
 ·rcases zK.1 f with f|f
  ·exact v.sub z f
  ·rw[zW] at f
   subst f
   exact⟨e,i,g⟩
 ·exact left_shrinks es seen e n
theorem Vis.all{es:Array MapEntry}{c:Nat}{ks vs:List (Int × Int)}{seen:Array Nat}(h:KM es c ks)(v:Vis es seen vs)(i:(leftOf es seen).size=0):∀z,z∈vs↔z∈ks:=λz=>by
 have f:∀e∈es.toList,e.born∈seen:=λe a=>by
  by_cases g:e.born∈seen
  ·exact g
  ·have:=zUa.2 ⟨a,g⟩
   rw[<-qF] at i
   rw[zF i] at this
   cases this
 constructor
 ·intro q
  obtain⟨e,a,d⟩:=v.sub z q
  obtain⟨k,b,j⟩:=Wi h a
  rw[Vp (d.symm.trans b)]
  exact j
 ·intro q
  have:vu z∈es.toList.map (·.key):=by rw[h.keys];exact zr.2 ⟨z,q,rfl⟩
  obtain⟨e,a,d⟩:=zr.1 this
  exact(v.iff e a z d).2 (f e a)
theorem xda{α:Type}(l M:List α)(k:Nat)(o:α):(l++M).set (l.length+k) o=l++M.set k o:=by
 rw[zU _ _ (by omega),Nat.add_sub_cancel_left]
theorem OwnS.set_raw{h0 h:List Ob}{ty e:Nat}{x:AV}{rows:List (List AV)}(k:OwnS h0 h ty e x rows){i l:Nat}{ob:Obj}{ks us}(hi:h[i]? =some (.raw l ob ks us))(o:Ob):OwnS h0 (h.set i o) ty e x rows:=by
 rcases k with k|⟨id,st,k1,k2,k3⟩
 ·exact .inl k
 ·refine .inr ⟨id,st,k1,k2,?_⟩
  have:i≠id:=λq=>by rw[q,k3] at hi;cases hi
  rw[zc this]
  exact k3
abbrev HT(h:List Ob)(s:Setup)(a:SA)(q:Fx)(l:Nat)(es:Array MapEntry)(c:Nat):List Ob:=h++[.box 30 (qg s a),.box 77 (fxC q),.raw l (.map es c) [] [],.box 166 [.v (.map (some l))]]
theorem QW{α:Type}[DecidableEq α]:∀ {a b:List α},a.Nodup->(∀x∈a,x∈b)->a.length<=b.length
 | [],_,_,_=>Nat.zero_le _
 | x::a,b,g,d=>by
   obtain⟨h,f⟩:=List.nodup_cons.1 g
   have c:=d x (.head _)
   have:=QW (a:=a) (b:=b.erase x) f λy e=>(List.mem_erase_of_ne (λq=>by subst q;exact h e)).2 (d y (.tail _ e))
   rw[List.length_erase_of_mem c] at this
   have i:=List.length_pos_of_mem c
   rw[List.length_cons]
   omega
theorem jfa(s:Setup)(e:Ev):(yk s e).length<=53:=by
 have a:=Jo (wr (qI e.at_ 32054399 - wr (qI s.unit 604800+qI s.cap 604800)))
 have b:=Jo (wr (qI e.at_ 32054399+wr (qI s.unit 604800+qI s.cap 604800)))
 unfold yk Jp yi
 rw[zb,zb,js]
 simp only
 omega
theorem jga(s:Setup)(l:List Ev)(x:Fx):(ZT s l x).length<=106:=by
 have a:=jfa s (Qb l x.ev.id).1
 have b:=jfa s x.ev
 unfold ZT
 rw[zf]
 split<;>split<;>simp<;>omega
abbrev HU(h:List Ob)(s:Setup)(a:SA)(q:Fx)(l:Nat)(es:Array MapEntry)(c:Nat)(e:Ev):List Ob:=h++[.box 30 (qg s a),.box 77 (fxC q),.raw l (.map es c) [] [],.box 166 [.v (.map (some l))],.box 75 (evC e)]
theorem QYa(h:List Ob)(s:Setup)(a:SA)(k:SIn h s a)(x:AV)(l:List Ev)(q:Fx)(hx:SlOf h x 11 (l.map evC))(hl:l.length<1048576):
  ACalls Tryz.prog 37 [je s a,x,.ag (fxC q)] h λr h'=>∃L,h'=h++L/\NoRes L/\New h 2 r ((jt s l q).map jm) L:=by
 have hex:∃r h',(∃L,h'=h++L/\NoRes L/\New h 2 r ((jt s l q).map jm) L)/\ResK h h':=
  ⟨.sl 2 _,_,⟨[],rfl,jh,λ_ _=>⟨rfl,λ_=>rfl⟩⟩,resK_app⟩
 refine jN (N:=50) (rs:=[.tmp 6]) (fn:=Tryz.f37) rfl rfl rfl rfl (qo rfl) rfl (hex) λB=>?_
 refine qG (by decide) ?_
 simp only[go_sem,k.ones]
 refine jS (qG (by decide) ?_)
 simp only[go_sem]
 refine jS (wWa (id:=h.length+2) (j:=h.length+3) (by rw[zG (k:=2) rfl];rfl) (by rw[zG (k:=3) rfl];rfl) λm k0=>?_)
 rw[xda,xda]
 have hH:∀es c,h++[Ob.box 30 (qg s a),.box 77 (fxC q),.raw m (.map es c) [] [],.box 166 [.v (.map (some m))]]=HT h s a q m es c:=λ_ _=>rfl
 simp only[List.set_cons_zero,List.set_cons_succ]
 rw[hH]
 have ζ:(HT h s a q m #[] k0)[h.length+1]? =some (.box 77 (fxC q)):=by rw[zG (k:=1) rfl];rfl
 have F:∀es c,(HT h s a q m es c).length=h.length+4:=λes c=>by simp
 have g0:∀es c e,(HU h s a q m es c e)[h.length]? =some (.box 30 (qg s a)):=λes c M=>by rw[zM rfl];rfl
 have g1:∀es c e,(HU h s a q m es c e)[h.length+1]? =some (.box 77 (fxC q)):=λes c M=>by rw[zG (k:=1) rfl];rfl
 have g2:∀es c e,(HU h s a q m es c e)[h.length+2]? =some (.raw m (.map es c) [] []):=λes c M=>by rw[zG (k:=2) rfl];rfl
 have g3:∀es c e,(HU h s a q m es c e)[h.length+3]? =some (.box 166 [.v (.map (some m))]):=λes c M=>by rw[zG (k:=3) rfl];rfl
 have g4:∀es c e,(HU h s a q m es c e)[h.length+4]? =some (.box 75 (evC e)):=λes c M=>by rw[zG (k:=4) rfl];rfl
 have w:∀es c es' c' e,(HU h s a q m es c e).set (h.length+2) (.raw m (.map es' c') [] [])=HU h s a q m es' c' e:=λes c es' c' M=>by
  rw[xda]
  rfl
 obtain⟨old,u⟩:∃old,old=Qb l q.ev.id:=⟨_,rfl⟩
 clear hH
 refine qG (by decide) ?_
 simp only[go_sem]
 have X:∀es c,SlOf (HT h s a q m es c) x 11 (l.map evC):=λes c=>hx.app _
 have kM:∀es c e,SIn (HU h s a q m es c e) s a:=λes c e=>k.app _
 refine jS (xr (λT h'=>∃es c,h'=HU h s a q m es c old.1/\KM es c ((if old.2 && xh q then yk s old.1 else []).foldl Jq [])/\T 5= .ptr (h.length+1) 0/\T 7= .ptr (h.length+3) 0/\T 8= .fn (.func 94) [] [.ptr h.length 0,.ptr (h.length+3) 0]) (by decide) ?_ ?_)
 ·simp only[go_sem,ζ]
  refine zg (jPb _ x l q.ev.id (X _ _) hl) ?_
  rintro _ h1 ⟨rfl,rfl⟩
  rw[<-u]
  simp only[go_sem,F]
  cases P:old.2
  ·simp only[go_sem,P,qt]
   exact⟨_,_,rfl,wUa _⟩
  ·simp only[go_sem,P,qt,g1]
   refine zg (Kea q _) ?_
   rintro _ h1 ⟨rfl,rfl⟩
   simp only[go_sem]
   cases q2:xh q
   ·simp only[go_sem,q2]
    exact⟨_,_,rfl,wUa _⟩
   ·simp only[go_sem,q2,g4]
    refine zg (y8a _ s a (kM _ _ _) h.length (h.length+3) (h.length+2) m (g0 _ _ _) (g3 _ _ _) _ _ [] (g2 _ _ _) (wUa _) old.1) ?_
    rintro _ h2 ⟨rfl,es',c',z1,z2⟩
    rw[w] at z2
    subst z2
    simp only[go_sem]
    exact⟨es',c',rfl,z1⟩
 rintro T h' ⟨es1,c1,rfl,z1,t5,t7,t8⟩
 refine xr (λT h'=>∃es c,h'=HU h s a q m es c old.1/\KM es c ((ZT s l q).foldl Jq [])/\T 7= .ptr (h.length+3) 0) (by decide) ?_ ?_
 ·simp only[go_sem,t5,g1]
  refine zg (YIa q _) ?_
  rintro _ h1 ⟨rfl,rfl⟩
  simp only[go_sem]
  cases P:xY q
  ·simp only[go_sem,P,qt]
   refine⟨es1,c1,rfl,?_,by simp only[go_sem,t7]⟩
   unfold ZT
   rw[<-u,P]
   simpa using z1
  ·simp only[go_sem,P,qt,t8,t5,g1]
   refine zg (y8a _ s a (kM _ _ _) h.length (h.length+3) (h.length+2) m (g0 _ _ _) (g3 _ _ _) _ _ _ (g2 _ _ _) z1 q.ev) ?_
   rintro _ h2 ⟨rfl,es',c',z2,z3⟩
   rw[w] at z3
   subst z3
   simp only[go_sem]
   refine⟨es',c',rfl,?_,by simp only[go_sem,t7]⟩
   unfold ZT
   rw[<-u,P,qK]
   simpa using z2
 rintro T h' ⟨es,c,rfl,K,t7⟩
 clear z1 t5 t8
 obtain⟨ks,R⟩:∃ks,ks=(ZT s l q).foldl Jq []:=⟨_,rfl⟩
 rw[<-R] at K
 have hkn:ks.Nodup:=by rw[R];exact WO .nil
 have Q:∀z,z∈ks↔z∈jt s l q:=λz=>by
  unfold jt
  rw[ZU,R,jea]
  simp
 have Y:∀vs:List (Int × Int),vs.Nodup->(∀z∈vs,z∈ks)->vs.length<=106:=λvs h1 h2=>by
  have h3:=QW (b:=ZT s l q) h1 λz A=>by
   have:=(Q z).1 (h2 z A)
   exact ZU.1 this
  have h4:=jga s l q
  omega
 refine qG (by decide) ?_
 simp only[go_sem]
 obtain⟨H,C⟩:∃H,H=HU h s a q m es c old.1:=⟨_,rfl⟩
 have E:=g2 es c old.1
 have I:=g3 es c old.1
 have G:Pre h H:=⟨_,C,zl rfl (zl rfl (zl rfl (zl rfl (zD rfl))))⟩
 have Z:H.length=h.length+5:=by rw[C];simp
 rw[<-C] at E I⊢
 clear C g0 g1 g2 g3 g4 w X kM ζ F
 refine jS (Z6 (Z6 (zRa [_,_] [] rfl (by decide) ⟨rfl,y7 (by decide) ?_⟩)))
 simp only[go_sem,t7,I]
 refine⟨rfl,wXa (by decide) (id:=h.length+2) (l:=m) (es:=es) (c:=c) rfl (by simp only[go_sem]) E λr=>?_⟩
 simp only[go_sem]
 obtain⟨T1,D⟩:∃T1:Env,T1=upd (upd (upd T 11 (.v (.slice none 0 0))) 37 (.v (.map (some m)))) 38 (.v (.pointer (some ⟨r,0,none⟩))):=⟨_,rfl⟩
 have d:T1 11= .v (.slice none 0 0):=by rw[D];simp only[go_sem]
 have f:T1 38= .v (.pointer (some ⟨r,0,none⟩)):=by rw[D];simp only[go_sem]
 have p:Pre h (H++[.raw r (.mapIter (some m) c #[] c) [] []]):=G.app (zD rfl)
 have gm:(H++[.raw r (.mapIter (some m) c #[] c) [] []])[h.length+2]? =some (.raw m (.map es c) [] []):=ze E
 have gi:(H++[.raw r (.mapIter (some m) c #[] c) [] []])[h.length+5]? =some (.raw r (.mapIter (some m) c #[] c) [] []):=by rw[<-Z,zM rfl];rfl
 rw[<-D]
 clear D
 obtain⟨H1,V⟩:∃H1,H1=H++[.raw r (.mapIter (some m) c #[] c) [] []]:=⟨_,rfl⟩
 rw[<-V] at p gm gi⊢
 clear V Z E I G t7
 refine VF (xKa (λn T h'=>∃(seen:Array Nat) (vs:List (Int × Int)) (y:AV),Pre h h'/\h'[h.length+2]? =some (.raw m (.map es c) [] [])/\h'[h.length+5]? =some (.raw r (.mapIter (some m) c seen c) [] [])/\OwnS h h' 90 2 y (vs.map jm)/\Vis es seen vs/\T 11=y/\T 38= .v (.pointer (some ⟨r,0,none⟩))/\n=(leftOf es seen).size) (leftOf es #[]).size
  ⟨#[],[],_,p,gm,gi,.inl ⟨rfl,rfl⟩,WJa es,d,f,rfl⟩ ?_)
 rintro n T2 h' ⟨seen,vs,y,k1,k2,k3,k4,k5,d,f,rfl⟩
 refine Z6 (zRa [_] [_] rfl (by decide) ⟨rfl,QWa (by decide) rfl f k2 k3 K.lt (zo _) (λA=>?_) (λe he=>?_)⟩)
 ·simp only[go_sem]
  refine qG (by decide) ?_
  simp only[go_sem]
  have g:=k5.all K A
  have hvl:=Y vs k5.nodup λz A=>(g z).1 A
  refine qG (by decide) ?_
  rcases k4 with⟨rfl,t⟩|⟨id,st,u1,rfl,S⟩
  ·simp only[go_sem,d]
   refine zg (WIa _ _) ?_
   rintro _ h3 ⟨rfl,rfl⟩
   simp only[go_sem]
   refine jS (qD _ (by decide) ?_)
   simp only[go_sem,d]
   have O:vs=[]:=List.map_eq_nil_iff.1 t
   have hts:jt s l q=[]:=by
    rw[List.eq_nil_iff_forall_not_mem]
    intro z φ
    have:=(g z).2 ((Q z).2 φ)
    rw[O] at this
    cases this
   obtain⟨L,hL,hN⟩:=k1
   exact⟨.v (.slice none 0 0),by simp only[go_sem],.inl ⟨L,hL,hN,by rw[hts];exact λ_ _=>⟨rfl,λq=>absurd rfl q⟩⟩⟩
  ·simp only[go_sem,d]
   refine zg (z3b _ id st vs (jt s l q) S (by omega) k5.nodup (Vn _) λz=>(g z).trans (Q z)) ?_
   rintro _ h3 ⟨rfl,rfl⟩
   simp only[go_sem]
   refine jS (qD _ (by decide) ?_)
   simp only[go_sem,d]
   have τ:=k1.set (i:=id) (o:= .row 90 2 ((jt s l q).map jm) st) u1 rfl
   have own:OwnS h (h'.set id (.row 90 2 ((jt s l q).map jm) st)) 90 2 (.tl id st) ((jt s l q).map jm):= .inr ⟨id,st,u1,rfl,zm S⟩
   obtain⟨L,hL,hN⟩:=τ
   rw[hL] at own⊢
   exact⟨_,by simp only[go_sem],.inl ⟨L,rfl,hN,own.new (zo _)⟩⟩
 ·obtain⟨ε,_⟩:=zUa.1 he
  obtain⟨ky,δ,hkm2⟩:=Wi K ε
  obtain⟨v2,v3⟩:=k5.more K hkn he δ
  have hvl:=Y vs k5.nodup λz A=>by
   obtain⟨x,hx,hk⟩:=k5.sub z A
   obtain⟨k',ψ,hm'⟩:=Wi K hx
   rw[Vp (hk.symm.trans ψ)]
   exact hm'
  have j1:=k1.set (i:=h.length+5) (o:= .raw r (.mapIter (some m) c (seen.push e.born) c) [] []) (by omega) rfl
  have j2:(h'.set (h.length+5) (.raw r (.mapIter (some m) c (seen.push e.born) c) [] []))[h.length+2]? =some (.raw m (.map es c) [] []):=by rw[zc (by omega)];exact k2
  have W:(h'.set (h.length+5) (.raw r (.mapIter (some m) c (seen.push e.born) c) [] []))[h.length+5]? =some (.raw r (.mapIter (some m) c (seen.push e.born) c) [] []):=zm k3
  have j4:=k4.set_raw k3 (.raw r (.mapIter (some m) c (seen.push e.born) c) [] [])
  obtain⟨J,hJ⟩:∃J,J=h'.set (h.length+5) (.raw r (.mapIter (some m) c (seen.push e.born) c) [] []):=⟨_,rfl⟩
  rw[<-hJ] at j1 j2 W j4⊢
  clear hJ k1 k2 k3 k4
  simp only[go_sem]
  refine qG (by decide) ?_
  simp only[go_sem]
  refine jS (VF (Z6 (zRa [_] [_,_,_] rfl (by decide) ⟨rfl,wYa (by decide) rfl (by simp only[go_sem,f]) j2 W ε K.born ?_⟩)))
  rw[δ]
  simp only[vu,ofV]
  simp only[go_sem]
  refine qD _ (by decide) ?_
  have hJl:=j1.len
  rcases j4 with⟨rfl,t⟩|⟨id,st,u1,rfl,S⟩
  ·simp only[go_sem,d]
   have O:vs=[]:=List.map_eq_nil_iff.1 t
   subst O
   refine⟨_,v3,_,_,_,j1.app (zl rfl (zl rfl (zD rfl))),ze j2,ze W,.inr ⟨J.length+2,0,by omega,rfl,?_⟩,v2,rfl,f,rfl⟩
   rw[zG (k:=2) rfl]
   rfl
  ·have α:(vs.length+1)*17<=140737488355328:=by omega
   have ι:∀M,(J++M)[id]? =some (.row 90 2 (vs.map jm) st):=λM=>ze S
   have hidl:=(zd.1 S).1
   simp only[go_sem,d,ι,zb,α]
   have j1':=(j1.app (M:=[.box 90 (jm ky),.row 90 2 [jm ky] 0]) (zl rfl (zD rfl))).set (i:=id) (o:= .row 90 2 (vs.map jm++[jm ky]) (st+1)) u1 rfl
   have U:∀ {z:Nat} {l ob ks us},J[z]? =some (.raw l ob ks us)->id≠z:=λA q=>by rw[<-q,S] at A;cases A
   refine⟨_,v3,_,_,_,j1',?_,?_,.inr ⟨id,st+1,u1,rfl,?_⟩,v2,rfl,f,rfl⟩
   ·rw[zc (U j2)];exact ze j2
   ·rw[zc (U W)];exact ze W
   ·rw[zw]
    exact zm (ι _)
theorem vea(h:List Ob)(s:Setup)(a:SA)(k:SIn h s a)(x:AV)(l:List Ev)(q:Fx)(b:SlOf h x 11 (l.map evC))(c:l.length<1048576):
  ACalls Tryz.prog 37 [je s a,x,.ag (fxC q)] h λr h'=>r= .sl 2 ((jt s l q).map jm)/\h'=h:=
 jX (by decide) (Kza _) (QYa h s a k x l q b c)
end Go.Proofs.YtigdlmpjijhpaaaGreat.Ax
namespace Go.Proofs.YtigdlmpjijhpaaaGreat.Ax
open Go Go.Proofs
set_option maxRecDepth 100000
def zVa(a:List Int)(e:Int)(k:Int × Int):Int:=jK e (!jv a k.2) 211
theorem jha(a:List Int):∀(L:List (Int × Int)) (e:Int),L.foldl (zVa a) e=jK e (!L.any λk=>jv a k.2) 211
 | [],e=>by simp[jK]
 | k::L,e=>by
   rw[List.foldl_cons,jha a L,List.any_cons]
   unfold zVa jK
   by_cases h:e=0
   ·subst h
    cases jv a k.2<;>cases (L.any λk=>jv a k.2)<;>simp
   ·have:(e==0)=false:=by simpa using h
    simp[this]
theorem w3a(e d:Int):jK e true d=e:=by simp[jK]
theorem WLa{l:List (Int × Int)}{i:Nat}(h:i<l.length):(l.map jm)[i]? =some [i64 (l[i]).1,i64 (l[i]).2]:=by rw[zz,zj h];rfl
theorem vfa(s:Setup)(l:List Ev)(x:Fx):(jt s l x).length<=106:=by
 have d:(jt s l x).Nodup:=(Vn _).imp λ{a b} h q=>by subst q;rw[xG] at h;omega
 have e:=QW (b:=ZT s l x) d λz c=>ZU.1 c
 have:=jga s l x
 omega
section
variable {h:List Ob} {d:Nat} {s:Setup} {a:SA} {x c:AV} {rows segs bytes:AV} {q:Cm}
def KDa(s:Setup)(b:Bk)(f:Fx)(x:AV):AV:=if QR s b f==0 then .sl 11 ((jx s b.evs f).1.map evC) else x
theorem j6b(f:h[d]? =some (.box 154 (qO s a x c 0 rows segs bytes q)))(k:SIn h s a)(b:Bk)(hx:SlOf h x 11 (b.evs.map evC))(hl:b.evs.length<262144)(hc:SlOf h c 1 (b.shut.map qn))(X:b.shut.length<1048576)(κ:AV.one x=true):
  ACalls Tryz.prog 78 [.ptr d 0] h λr h'=>r= .tup []/\∃L,h'=h.set d (.box 154 (qO s a (KDa s b q.fx x) c (QR s b q.fx) rows segs bytes q))++L/\NoRes L:=by
 refine zi Tryz.f78 [] 71 rfl rfl rfl rfl rfl rfl (by decide) (⟨_,_,⟨rfl,[],rfl,jh⟩,by rw[zH];exact qi f rfl⟩) λB=>?_
 simp only[go_sem]
 refine zL rfl [] 0 [(0,0,[]),(1,0,[]),(2,0,[]),(3,0,[]),(5,0,[]),(6,0,[]),(7,0,[]),(8,0,[]),(10,0,[]),(11,0,[]),(12,0,[]),(13,0,[]),(4,0,[]),(9,0,[]),(14,0,[]),(15,0,[]),(16,0,[]),(17,0,[]),(18,0,[]),(19,0,[]),(20,0,[])] rfl (by decide) (by decide) ?_
 simp only[go_sem,f,k.ones]
 refine zg (zSb h s a k x b.evs q.fx hx (by omega)) ?_
 rintro _ h1 ⟨rfl,e1⟩
 rw[e1]
 obtain⟨A,Z⟩:∃A,A=jx s b.evs q.fx:=⟨_,rfl⟩
 rw[<-Z]
 simp only[go_sem,f]
 refine zg (Xj f (A.2==0) A.2) ?_
 rintro _ h2 ⟨rfl,rfl⟩
 obtain⟨F,C⟩:∃F,F=jK 0 (A.2==0) A.2:=⟨_,rfl⟩
 rw[<-C]
 have G:=zm (b:=Ob.box 154 (qO s a x c F rows segs bytes q)) f
 simp only[go_sem,zb]
 refine zg (Xj G (decide ((A.1.length:Int)<=200)) 210) ?_
 rintro _ h3 ⟨rfl,rfl⟩
 rw[qd]
 obtain⟨j,D⟩:∃j,j=jK F (decide ((A.1.length:Int)<=200)) 210:=⟨_,rfl⟩
 rw[<-D]
 have U:=zm (b:=Ob.box 154 (qO s a x c j rows segs bytes q)) f
 have Y:=hx.keep (.setB (o:= .box 154 (qO s a x c j rows segs bytes q)) f)
 have k2:=k.keep (.setB (o:= .box 154 (qO s a x c j rows segs bytes q)) f)
 simp only[go_sem]
 refine zL rfl [] 0 [(0,0,[]),(1,0,[]),(2,0,[]),(3,0,[]),(5,0,[]),(6,0,[]),(7,0,[]),(8,0,[]),(10,0,[]),(11,0,[]),(12,0,[]),(13,0,[]),(17,0,[]),(4,0,[]),(9,0,[]),(14,0,[]),(15,0,[]),(16,0,[])] rfl (by decide) (by decide) ?_
 simp only[go_sem,U,k.ones]
 refine zg (vea _ s a k2 x b.evs q.fx Y (by omega)) ?_
 rintro _ h4 ⟨rfl,e4⟩
 rw[e4]
 obtain⟨W,hW⟩:∃W,W=jt s b.evs q.fx:=⟨_,rfl⟩
 have S:=vfa s b.evs q.fx
 rw[<-hW] at S⊢
 simp only[go_sem,zb]
 have J:∀e M,SlOf (h.set d (.box 154 (qO s a x c e rows segs bytes q))++M) c 1 (b.shut.map qn):=λe M=>(hc.keep (.setB f)).app _
 refine zI (by decide) (λm T h'=>∃(i:Nat) (M:List Ob),i<=W.length/\h'=h.set d (.box 154 (qO s a x c ((W.take i).foldl (zVa b.shut) j) rows segs bytes q))++M/\NoRes M/\T 0= .ptr d 0/\T 2= .sl 11 (A.1.map evC)/\T 50= .sl 2 (W.map jm)/\T 51=i64 W.length/\T 52=i64 i/\m=W.length - i) W.length
  ⟨0,[],by omega,by rw[zH];rfl,jh,by simp only[go_sem],by simp only[go_sem],by simp only[go_sem],by(simp only[go_sem]<;>rfl),by(simp only[go_sem]<;>rfl),rfl⟩ ?_
 rintro m T h' ⟨i,M,hi,rfl,V,t0,t2,t50,t51,p,rfl⟩
 simp only[go_sem,t51,p]
 refine ways (λe=>?_) (λe=>?_)
 ·have y:=dlt e
  have n:=WLa y
  have I:(i:Int)<W.length:=by omega
  have t:(W.take (i+1)).foldl (zVa b.shut) j=zVa b.shut ((W.take i).foldl (zVa b.shut) j) W[i]:=by rw[<-zE y,qK];rfl
  obtain⟨z,hz⟩:∃z,z=W[i]:=⟨_,rfl⟩
  rw[<-hz] at n t
  obtain⟨E,O⟩:∃E,E=(W.take i).foldl (zVa b.shut) j:=⟨_,rfl⟩
  rw[<-O] at t⊢
  obtain⟨H,u⟩:∃H,H=h.set d (.box 154 (qO s a x c E rows segs bytes q))++M:=⟨_,rfl⟩
  have K:H[d]? =some (.box 154 (qO s a x c E rows segs bytes q)):=by rw[u];exact ze (zm f)
  have g:∀M,(H++M)[d]? =some (.box 154 (qO s a x c E rows segs bytes q)):=λM=>ze K
  have P:SlOf H c 1 (b.shut.map qn):=by rw[u];exact J E M
  have l:d<(h.set d (.box 154 (qO s a x c E rows segs bytes q))).length:=by rw[zN];exact(zd.1 f).1
  have w:∀e N,(H++N).set d (.box 154 (qO s a x c e rows segs bytes q))=h.set d (.box 154 (qO s a x c e rows segs bytes q))++(M++N):=λe N=>by
   rw[u,zt,qr _ _ l,qd]
  rw[<-u]
  clear u
  simp only[go_sem,t0,t50,p,n,I,zb,Int.toNat_natCast,zh]
  refine zg (Yc (g _) b.shut (P.app _) X z.2) ?_
  rintro _ h6 ⟨rfl,e6⟩
  rw[e6]
  simp only[go_sem]
  refine zg (Xj (g _) (!(b.shut.any (z.2== ·))) 211) ?_
  rintro _ h7 ⟨rfl,rfl⟩
  rw[w]
  simp only[go_sem,p]
  refine⟨W.length - (i+1),by omega,i+1,M++[.box 90 (jm z)],by omega,?_,?_,t0,t2,t50,t51,qf (by omega) rfl,rfl⟩
  ·rw[t]
   rfl
  ·intro o v
   rcases zK.1 v with v|v
   ·exact V o v
   ·exact zD rfl o v
 ·have ε:=j9 e
  have Q:i=W.length:=by omega
  subst Q
  rw[zP,jha]
  have R:jK j (!W.any λk=>jv b.shut k.2) 211=QR s b q.fx:=by unfold QR;rw[D,C,Z,hW]
  rw[R]
  obtain⟨E,O⟩:∃E,E=QR s b q.fx:=⟨_,rfl⟩
  have l:d<(h.set d (.box 154 (qO s a x c E rows segs bytes q))).length:=by rw[zN];exact(zd.1 f).1
  have g:∀M,(h.set d (.box 154 (qO s a x c E rows segs bytes q))++M)[d]? =some (.box 154 (qO s a x c E rows segs bytes q)):=λM=>ze (zm f)
  unfold KDa
  rw[<-O]
  simp only[go_sem,t0]
  refine zg (Xj (g M) true 0) ?_
  rintro _ h7 ⟨rfl,rfl⟩
  rw[w3a,qr _ _ l,qd]
  cases q1:E==0
  ·simp only[go_sem,q1]
   exact⟨_,rfl,.inl ⟨rfl,M,rfl,V⟩⟩
  ·simp only[go_sem,q1,t0,t2,g]
   rw[qr _ _ l,qd]
   exact⟨_,rfl,.inl ⟨rfl,M,by rw[Z],V⟩⟩
abbrev WMa(q:Cm):Cm:=⟨q.kind,⟨1,q.fx.ev⟩,q.worker,q.week,q.last⟩
theorem WNa(e:h[d]? =some (.box 154 (qO s a x c 0 rows segs bytes q)))(k:SIn h s a)(b:Bk)(j:SlOf h x 11 (b.evs.map evC))(n:b.evs.length<262144)(m:SlOf h c 1 (b.shut.map qn))(i:b.shut.length<1048576)(g:AV.one x=true):
  ACalls Tryz.prog 77 [.ptr d 0] h λr h'=>r= .tup []/\∃L,h'=h.set d (.box 154 (qO s a (KDa s b ⟨1,q.fx.ev⟩ x) c (QR s b ⟨1,q.fx.ev⟩) rows segs bytes (WMa q)))++L/\NoRes L:=by
 refine zi Tryz.f77 [] 9 rfl rfl rfl rfl rfl rfl (by decide) (⟨_,_,⟨rfl,[],rfl,jh⟩,by rw[zH];exact qi e rfl⟩) λB=>?_
 simp only[go_sem,e]
 have f:=zm (b:=Ob.box 154 (qO s a x c 0 rows segs bytes (WMa q))) e
 refine zg (j6b (q:=WMa q) f (k.keep (.setB e)) b (j.keep (.setB e)) n (m.keep (.setB e)) i g) ?_
 rintro _ p ⟨rfl,L,o,l⟩
 rw[o,qd]
 simp only[go_sem]
 exact⟨_,rfl,.inl ⟨rfl,L,rfl,l⟩⟩
end
end Go.Proofs.YtigdlmpjijhpaaaGreat.Ax
namespace Go.Proofs.YtigdlmpjijhpaaaGreat.Ax
open Go Go.RowKit
section
variable {B:Nat} {w w':World} {g g':Gh} {h h' L:List Ob} {P:Program}
theorem z4b(e:HOk B w g h)(hB:B<=w.heap.size){id:Nat}{ty:TypeId}{cs cs':List AV}(c:h[id]? =some (.box ty cs))(l:∀vs:List Value,ARs (ctx w g h) cs vs->ARs (ctx w g (h.set id (.box ty cs'))) cs' vs):Good B w g h w g (h.set id (.box ty cs')):=by
 have d:w.grownBy w ((Ob.box ty cs).blk g id):=⟨rfl,rfl,rfl,zo _,λ_ _ _=>rfl⟩
 have f:=Le.turn (g':=g) (o':= .box ty cs') c rfl d (λ_ _=>rfl) (λ_ _=>rfl) (λb a=> .inl a) (λ_=>⟨rfl,λs i=>by cases i⟩)
 obtain⟨m,vs,k,j⟩:=e.ok id _ c
 exact⟨e.turn c d (λ_ _=>rfl) (λ_ _=>rfl) (λb a=> .inl a) f ⟨m,vs,k,l _ j⟩,f,Below.refl _ _,hB⟩
theorem QZa(i:HOk B w g h)(hB:B<=w.heap.size){id:Nat}{ty:TypeId}{cs cs':List AV}(d:h[id]? =some (.box ty cs)){vs:List Value}(k:∃a:Array Value,w.heap[g.β id]? =some (.cells a ty (0,0))/\a.toList=vs)(m:ARs (ctx w g h) cs' vs):Good B w g h w g (h.set id (.box ty cs')):=by
 have f:w.grownBy w ((Ob.box ty cs).blk g id):=⟨rfl,rfl,rfl,zo _,λ_ _ _=>rfl⟩
 have e:=Le.turn (g':=g) (o':= .box ty cs') d rfl f (λ_ _=>rfl) (λ_ _=>rfl) (λb c=> .inl c) (λ_=>⟨rfl,λs j=>by cases j⟩)
 obtain⟨n,_⟩:=i.ok id _ d
 obtain⟨a,l,rfl⟩:=k
 exact⟨i.turn d f (λ_ _=>rfl) (λ_ _=>rfl) (λb c=> .inl c) e ⟨n,a,l,ARs.le e _ _ m⟩,e,Below.refl _ _,hB⟩
theorem Kz{n:Nat}:∀ {a b:List AV},qy n (a++b)=(qy n a && qy n b)
 | [],_=>rfl
 | x::a,b=>by
   rw[List.cons_append,qy,Kz,qy,Bool.and_assoc]
theorem xea{c:Ctx}:∀ {e:List AV} {x:AV} {bs:List AV} {us:List Value},ARs c (e++x::bs) us->∃b u d,us=b++u::d/\ARs c e b/\AR c x u/\ARs c bs d
 | [],x,bs,us,⟨u,r,h,g,f⟩=>⟨[],u,r,h,rfl,g,f⟩
 | a::e,x,bs,us,⟨u,r,h,g,f⟩=>by
   obtain⟨b,v,d,k,i,l,j⟩:=xea f
   subst k
   exact⟨u::b,v,d,h,⟨u,b,rfl,g,i⟩,l,j⟩
theorem w4a{c:Ctx}:∀ {g:List AV} {x:AV} {bs:List AV} {b d:List Value} {u:Value},ARs c g b->AR c x u->ARs c bs d->ARs c (g++x::bs) (b++u::d)
 | [],x,bs,b,d,u,i,h,f=>by
   have i:b=[]:=i
   subst i
   exact⟨u,d,rfl,h,f⟩
 | a::g,x,bs,b,d,u,⟨v,r,e,k1,k2⟩,h,f=>by
   subst e
   exact⟨v,_,rfl,k1,w4a k2 h f⟩
theorem KEa{n:Nat}{d:Nat}{o:Ob}(a:∀p∈h,VB n p=true)(b:VB n o=true):∀p∈h.set d o,VB n p=true:=xLa a b
theorem Zh{f:FuncId}{ar:List AV}{d:Nat}{ty:TypeId}{b cs:List AV}(j:h[d]? =some (.box ty b))(k:∀n,qy n b=true->qy n cs=true)(c:ACalls P f ar h λr h'=>r= .tup []/\∃L,h'=h.set d (.box ty cs)++L/\NoRes L):
  ACalls P f ar h λr h'=>r= .tup []/\h'=h.set d (.box ty cs):=by
 refine⟨c.1,⟨_,_,⟨rfl,rfl⟩,qi j rfl⟩,λφ p B w g vs m hB e=>?_⟩
 refine(c.2.2 φ p B w g vs m hB e).mono λz w' ⟨v,r,h',g',x,⟨u,L,s,_⟩,_,o,q⟩=>?_
 subst u s
 have l:Upto φ (h.set d (.box ty cs)).length:=by rw[zN];exact p
 rw[jW l,jj rfl] at o q
 have hid:=m.ids
 have i:=hid _ (qq (qL (φ:=φ) j rfl))
 have i:qy (fill φ h).length b=true:=i
 have a:((fill φ h).set d (.box ty cs)).length=(fill φ h).length:=zN
 refine⟨v,_,_,g',x,⟨rfl,rfl⟩,qi j rfl,?_,?_⟩
 ·rw[jj rfl]
  exact o.drop a (by rw[a];exact KEa hid (k _ i))
 ·obtain⟨us,y,t⟩:=q
  exact⟨us,y,t⟩
theorem wh{f:FuncId}{ar:List AV}{d:Nat}{ty:TypeId}{o i j:List AV}{e:Nat}{rows:List (List AV)}(Z:0<e)(J:h[d]? =some (.box ty o))(O:∀n,qy n o=true->qy n i=true/\qy n j=true)(X:∀n,qM n rows=true)
  (c:ACalls P f ar h λr h'=>r= .tup []/\∃L x,h'=h.set d (.box ty (i++x::j))++L/\NoRes L/\New h e x rows L):
  ACalls P f ar h λr h'=>r= .tup []/\h'=h.set d (.box ty (i++ .sl e rows::j)):=by
 refine⟨c.1,⟨_,_,⟨rfl,rfl⟩,qi J rfl⟩,λφ T B w g vs M hB t=>?_⟩
 refine(c.2.2 φ T B w g vs M hB t).mono λe' w' ⟨v,r,h',g',e1,⟨e2,L,x,e3,_,m⟩,_,y,G⟩=>?_
 subst e2 e3
 have K:Upto φ (h.set d (.box ty (i++x::j))).length:=by rw[zN];exact T
 rw[jW K,jj rfl] at y G
 have hid:=M.ids
 have q:=qL (φ:=φ) J rfl
 have p:=hid _ (qq q)
 have p:qy (fill φ h).length o=true:=p
 obtain⟨k1,k2⟩:=O _ p
 obtain⟨H,I⟩:∃H,H=fill φ h:=⟨_,rfl⟩
 have C:H.length=h.length:=by rw[I,jo]
 rw[<-I] at y G hid q k1 k2 M⊢
 have l:d<H.length:=(zd.1 q).1
 have N:(H.set d (.box ty (i++x::j))++L)[d]? =some (.box ty (i++x::j)):=by rw[zO (by rw[zN];exact l),zp l]
 obtain⟨b1,F,b2,b3⟩:=y.ok.ok _ _ N
 obtain⟨u1,u,u2,c1,c2,c3,Y⟩:=xea b3
 have z:=z4b y.ok y.size N (cs':=i++ .bad::j) λvs hv=>by
  have U:Le (ctx w' g' (H.set d (.box ty (i++x::j))++L)) (ctx w' g' ((H.set d (.box ty (i++x::j))++L).set d (.box ty (i++ .bad::j)))):=
   Le.turn (g':=g') (o':= .box ty (i++ .bad::j)) N rfl ⟨rfl,rfl,rfl,zo _,λ_ _ _=>rfl⟩ (λ_ _=>rfl) (λ_ _=>rfl) (λb V=> .inl V) (λ_=>⟨rfl,λs W=>by cases W⟩)
  obtain⟨a1,a,a2,z1,z2,z3,z4⟩:=xea hv
  rw[z1]
  exact w4a (ARs.le U _ _ z2) trivial (ARs.le U _ _ z4)
 have A:(H.set d (.box ty (i++x::j))++L).set d (.box ty (i++ .bad::j))=H.set d (.box ty (i++ .bad::j))++L:=by
  rw[qr _ _ (by rw[zN];exact l),qd]
 rw[A] at z
 have G2:=y.trans z
 have k:(H.set d (.box ty (i++ .bad::j))).length=H.length:=zN
 have D:=G2.drop k (by
  rw[k]
  refine KEa hid ?_
  show qy H.length (i++ .bad::j)=true
  rw[Kz,qy,k1,k2];rfl)
 have Q:SlOf (H.set d (.box ty (i++ .bad::j))++L) x e rows:=m _ (by rw[k,C])
 have R:AR (ctx w' g' (H.set d (.box ty (i++ .bad::j))++L)) x u:=AR.le z.le _ _ c3
 have E:=Jg z.ok Z R Q (λid hid=>by rw[k,C];exact m.root id hid) (X _)
 have g3:(H.set d (.box ty (i++ .bad::j)))[d]? =some (.box ty (i++ .bad::j)):=zp l
 have S:=QZa D.ok D.size g3 (cs':=i++ .sl e rows::j) (vs:=u1++u::u2) ⟨F,b2,c1⟩ (by
  refine w4a ?_ E ?_
  ·exact ARs.less (kU w' g' _ L) _ _ (by rw[k];exact k1) (ARs.le z.le _ _ c2)
  ·exact ARs.less (kU w' g' _ L) _ _ (by rw[k];exact k2) (ARs.le z.le _ _ Y))
 rw[qd] at S
 refine⟨v,_,_,g',e1,⟨rfl,rfl⟩,qi J rfl,?_,?_⟩
 ·rw[jj rfl, <-I]
  exact D.trans S
 ·obtain⟨us,q1,q2⟩:=G
  exact⟨us,q1,q2⟩
end
end Go.Proofs.YtigdlmpjijhpaaaGreat.Ax
namespace Go.Proofs.YtigdlmpjijhpaaaGreat.Ax
open Go Go.Proofs
set_option maxRecDepth 100000
abbrev xfa(l:List Int)(st:Nat):Ob:= .row 3 1 (l.map qn) st
theorem zWa(e:Int):VJ (qn e)=e:=rfl
theorem vga{l:List Int}{i:Nat}{e:Int}(h:l[i]? =some e):(l.map qn)[i]? =some (qn e):=by rw[zz,h];rfl
theorem Q0a(p:Int->Bool)(l:List Int):(JX (l.map qn) (λr=>p (VJ r))= -1/\∀e∈l,p e=false)∨∃A x R,l=A++x::R/\JX (l.map qn) (λr=>p (VJ r))=(A.length:Int)/\p x=true/\∀e∈A,p e=false:=by
 by_cases h:∀e∈l,p e=false
 ·refine .inl ⟨yB λj b=>?_,h⟩
  rw[List.getElem_map,zWa]
  exact h _ (zy _)
 ·right
  induction l with
  | nil=>exact absurd (λe a=>by cases a) h
  | cons y l g=>
    cases c:p y with
    | true=>exact⟨[],y,l,rfl,wY (rows:=(y::l).map qn) (k:=0) (by simp) (λj b=>by omega) c,c,λe a=>by cases a⟩
    | false=>
      obtain⟨A,x,R,rfl,m,f,i⟩:=g (λq=>h λe a=>by
       rcases zx.1 a with rfl|a
       ·exact c
       ·exact q e a)
      have d:∀e∈y::A,p e=false:=λe a=>by
       rcases zx.1 a with rfl|a
       ·exact c
       ·exact i e a
      refine⟨y::A,x,R,rfl,?_,f,d⟩
      refine wY (by simp) (λj b=>?_) ?_
      ·rw[List.getElem_map,zWa]
       have:(y::(A++x::R))[j]'(by simp at b ⊢;omega)=(y::A)[j]:=by
        have q:((y::A)++x::R)[j]'(by simp at b ⊢;omega)=(y::A)[j]:=List.getElem_append_left b
        exact q
       rw[this]
       exact d _ (zy _)
      ·rw[List.getElem_map,zWa]
       have:(y::(A++x::R))[(y::A).length]'(by simp)=x:=by
        rw[List.getElem_of_eq (show y::(A++x::R)=(y::A)++x::R from rfl),List.getElem_append_right (zo _)]
        simp
       rw[this]
       exact f
theorem zXa{p:Int->Bool}{l:List Int}(h:∀e∈l,p e=false):l.filter (λe=> !p e)=l:=List.filter_eq_self.2 λe a=>by simp[h e a]
theorem WOa(h:List Ob)(id st:Nat)(l:List Int)(f:FuncId)(cs:List AV)(p:Int->Bool)(hi:h[id]? =some (xfa l st))(hl:l.length<1048576)(Y:∀e∈l,∀o L,ACalls Tryz.prog f ([i64 e]++cs) (h.set id o++L) λr h'=>r=bl (p e)/\h'=h.set id o++L):
  ACalls Tryz.prog 167 [.tl id st,.fn (.func f) [] cs] h λr h'=>∃l2,h'=h.set id (xfa l2 st)/\(r= .tl id st∨∃n,r= .vw (.tl id st) 1 0 n)/\SlOf h' r 1 ((l.filter λe=> !p e).map qn):=by
 have hex:∃r h',(∃l2,h'=h.set id (xfa l2 st)/\(r=AV.tl id st∨∃n,r= .vw (.tl id st) 1 0 n)/\SlOf h' r 1 ((l.filter λe=> !p e).map qn))/\ResK h h':=
  ⟨.tl id st,_,⟨l.filter λe=> !p e,rfl,.inl rfl,by rw[qZ,zm hi,kY,if_pos rfl],λ_=>by rw[jP,zm hi,wl]⟩,qi hi rfl⟩
 have S:SlOf h (.tl id st) 1 (l.map qn):=⟨by rw[qZ,hi,kY,if_pos rfl],λ_=>by rw[jP,hi,wl]⟩
 have N:ZG h f cs VMa (l.map qn) (λr=>p (VJ r)):=λrow E L=>by
  obtain⟨e,he,rfl⟩:=zr.1 E
  have:=Y e he (xfa l st) L
  rw[qS hi] at this
  exact this
 refine zi Tryz.f167 [.tmp 4] 42 rfl rfl rfl rfl rfl rfl (by decide) (hex) λB=>?_
 simp only[go_sem]
 refine zg (jhb h _ f cs _ _ (by rw[zb];omega) (λr hr=>by obtain⟨e,_,rfl⟩:=zr.1 hr;rfl) S N) ?_
 rintro _ u ⟨rfl,e1⟩
 subst e1
 rcases Q0a p l with⟨J,O⟩|⟨A,x,R,rfl,J,O,q3⟩
 ·rw[J]
  simp only[go_sem]
  exact⟨.tl id st,by simp only[go_sem],.inl ⟨l,(qS hi).symm,.inl rfl,by rw[zXa O];exact S⟩⟩
 ·rw[J]
  have I:((A.length:Int)== -1)=false:=by simp
  simp only[zf,List.length_cons] at hl
  have w1:wr ((A.length:Int)+1)=((A.length+1:Nat):Int):=xF (by omega)
  have w:((A++[x]).filter λe=> !p e)=A:=by rw[qu,zXa q3];simp[O]
  simp only[go_sem,I,w1]
  refine zI (by decide) (λn T h'=>∃(P X c:List Int) (L:List Ob),P++c=A++x::R/\(P.filter λe=> !p e).length+X.length=P.length/\0<X.length/\h'=u.set id (xfa ((P.filter λe=> !p e)++(X++c)) st)++L/\T 0= .tl id st/\T 1= .fn (.func f) [] cs/\T 5=i64 (P.filter λe=> !p e).length/\T 6=i64 P.length/\n=c.length) R.length
   ⟨A++[x],[x],R,[],by simp,by rw[w];simp,by simp,by rw[w,zH];exact(qS hi).symm,by simp only[go_sem],by simp only[go_sem],by(simp only[go_sem]<;>rw[w]),by(simp only[go_sem]<;>simp),rfl⟩ ?_
  rintro n T h' ⟨P,X,c,L,j,K,Q,rfl,t0,t1,t5,t6,rfl⟩
  have F:∀M o,(u.set id o++M)[id]? =some o:=λM o=>ze (zm hi)
  have C:=congrArg List.length j
  simp only[zf,List.length_cons] at C
  simp only[go_sem,t6,t0,F,zb,zf]
  refine ways (λe=>?_) (λe=>?_)
  ·have g:=dlt e
   cases c with
   | nil=>first|omega|(simp at g;omega)|(simp at g)
   | cons v c=>
   simp only[List.length_cons] at g C
   obtain⟨a,i⟩:∃a,a=P.filter λe=> !p e:=⟨_,rfl⟩
   rw[<-i] at K t5 g⊢
   have hv:v∈A++x::R:=by rw[<-j];simp
   have H:(a++(X++v::c))[P.length]? =some v:=by
    rw[<-zt]
    rw[zX (by rw[zf];omega),show P.length - (a++X).length=0 by rw[zf];omega]
    rfl
   have Z:((a++(X++v::c)).map qn)[P.length]? =some [i64 v]:=vga H
   have la:(P.length:Int)<((a.length+(X.length+(c.length+1)):Nat):Int):=by omega
   have V:wr ((P.length:Int)+1)=((P.length+1:Nat):Int):=xF (by omega)
   have w3:wr ((a.length:Int)+1)=((a.length+1:Nat):Int):=xF (by omega)
   obtain⟨l3,m⟩:∃l3,l3=a++(X++v::c):=⟨_,rfl⟩
   rw[<-m] at Z⊢
   have k:l3.length=a.length+(X.length+(c.length+1)):=by rw[m];simp
   simp only[go_sem,t6,t0,t1,F,Z,la,k,zb,Int.toNat_natCast,zh]
   refine zg (Y v hv _ _) ?_
   rintro _ h3 ⟨rfl,e3⟩
   subst e3
   simp only[go_sem]
   have q:(P++[v])++c=A++x::R:=by rw[<-j];simp
   refine ways (λs=>?_) (λs=>?_)
   ·have s:p v=false:=by simpa using s
    have d:((P++[v]).filter λe=> !p e)=a++[v]:=by rw[qu, <-i];simp[s]
    cases X with
    | nil=>simp at Q
    | cons U X=>
    have D:l3=a++U::(X++v::c):=m
    have rb:(l3.map qn)[a.length]? =some [i64 U]:=vga (by rw[D];simp)
    have G:∀M o t,(u.set id o++M).set id t=u.set id t++M:=λM o t=>by
     rw[jk (zm hi),qd]
    have lb:(a.length:Int)<((a.length+(X.length+1+(c.length+1)):Nat):Int):=by omega
    have z:(l3.map qn).set a.length [i64 v]=(a++v::(X++v::c)).map qn:=by
     show(l3.map qn).set a.length (qn v)=_
     rw[<-List.map_set,D,zU _ _ (zo _),Nat.sub_self]
     rfl
    have hq:(a++[v])++((X++[v])++c)=a++v::(X++v::c):=by simp
    simp only[go_sem,G,rb,lb,k,zb,Int.toNat_natCast,zh,t0,t1,t5,t6,F,V,w3,z]
    exact⟨c.length,by simp,P++[v],X++[v],c,L,q,by rw[d];simp at K ⊢;omega,by simp,by rw[d,hq],by rw[d];exact j6 (by simp),j6 (by simp),rfl⟩
   ·have s:p v=true:=by simpa using s
    have d:((P++[v]).filter λe=> !p e)=a:=by rw[qu, <-i];simp[s]
    simp only[go_sem,t6,V]
    exact⟨c.length,by simp,P++[v],X++[v],c,L,q,by rw[d];simp;omega,by simp,by rw[d,m];simp,t0,t1,by rw[d];exact t5,j6 (by simp),rfl⟩
  ·have β:=j9 e
   have hR:c=[]:=zF (by omega)
   subst hR
   rw[zH] at j
   subst j
   obtain⟨a,i⟩:∃a,a=(A++x::R).filter λe=> !p e:=⟨_,rfl⟩
   rw[<-i] at t5 K⊢
   have f0:(0:Int)<=(a.length:Int):=by omega
   have W:(a.length:Int)<=((a.length+X.length:Nat):Int):=by omega
   have f2:a.length+X.length - a.length=X.length:=by omega
   have G:∀M o t,(u.set id o++M).set id t=u.set id t++M:=λM o t=>by
    rw[jk (zm hi),qd]
   have hz:List.take a.length ((a++X).map qn)++(List.replicate X.length ([i64 0]:List AV)++List.drop (a.length+X.length) ((a++X).map qn))=(a++List.replicate X.length (0:Int)).map qn:=by
    rw[List.drop_of_length_le (by simp),zH,zw,zw,qE (by simp),List.take_of_length_le (by simp),List.map_replicate]
    rfl
   have f3:((a.length:Nat):Int)<=((a.length+X.length:Nat):Int):=W
   simp only[go_sem,t0,t5,F,G,hz,zb,zf,jb,f0,W,f2,Int.toNat_natCast,true_and,or_true,Int.le_refl,zo,Option.bind_some,jb,List.all_replicate,ite_self,Nat.sub_zero]
   have g:=(zd.1 hi).1
   refine⟨.vw (.tl id st) 1 0 a.length,by simp only[go_sem],.inr ⟨u.set id _,L,rfl,by simp,by simp[AV.lt,g],KeepLt.refl.set rfl (wJ _),⟨_,rfl,.inr ⟨_,rfl⟩,?_⟩⟩⟩
   have y:=zm (b:=xfa (a++List.replicate X.length (0:Int)) st) hi
   refine⟨?_,λ_=>?_⟩
   ·rw[vD,qZ,y,kY,if_pos rfl,Option.bind_some,if_pos ⟨by simp,.inr (by rw[jP,y,wl])⟩]
    simp
   ·rw[Q3,jP,y,wl]
    rfl
def q9(p:RowV × List Flg):List AV:=ve p.1++[.sl 2 (p.2.map km)]
theorem KFa(l:List (RowV × List Flg)):((l.map q9).all λr=>r.length==27 && r.all AV.one)=true:=by
 rw[qb];intro r a;obtain⟨s,_,rfl⟩:=zr.1 a;rfl
theorem Zt{n:Nat}:∀l:List (RowV × List Flg),qM n (l.map q9)=true
 | []=>rfl
 | p::l=>by
   rw[List.map_cons,qM,Zt l]
   simp only[q9,ve,List.cons_append,List.nil_append,qy,AV.lt,V6,Bool.and_self]
structure DE (h:List Ob) (d:Nat) (mk:AV->Ob) (y:AV) (rows:List (List AV)) (H:List Ob):Prop where
 eq:∃M,H=h.set d (mk y)++M/\NoRes M
 own:OwnS h H 45 27 y rows
theorem DE.base{h:List Ob}{d:Nat}{mk:AV->Ob}:DE h d mk (.v (.slice none 0 0)) [] (h.set d (mk (.v (.slice none 0 0)))):=⟨⟨[],by rw[zH],jh⟩,.inl ⟨rfl,rfl⟩⟩
theorem DE.one{h:List Ob}{d:Nat}{mk:AV->Ob}{y y':AV}{rows rows':List (List AV)}{H:List Ob}(k:DE h d mk y rows H)(c:d<h.length){N:List Ob}(b:NoRes N)(a:OwnS h ((H++N).set d (mk y')) 45 27 y' rows'):DE h d mk y' rows' ((H++N).set d (mk y')):=by
 obtain⟨M,f,e⟩:=k.eq
 refine⟨⟨M++N,?_,λo a=>?_⟩,a⟩
 ·rw[f,zt,qr _ _ (by rw[zN];exact c),qd]
 ·rcases zK.1 a with a|a
  ·exact e o a
  ·exact b o a
theorem DE.two{h:List Ob}{d:Nat}{mk:AV->Ob}{y y':AV}{rows rows':List (List AV)}{H:List Ob}(k:DE h d mk y rows H)(f:d<h.length){N:List Ob}(c:NoRes N){id:Nat}{o:Ob}(hid:h.length<=id)(b:o.isRes=false)(e:OwnS h (((H++N).set id o).set d (mk y')) 45 27 y' rows'):DE h d mk y' rows' (((H++N).set id o).set d (mk y')):=by
 obtain⟨M,i,g⟩:=k.eq
 refine⟨⟨(M++N).set (id - h.length) o,?_,λp a=>?_⟩,e⟩
 ·rw[i,zt,zU _ _ (by rw[zN];exact hid),zN,qr _ _ (by rw[zN];exact f),qd]
 ·rcases List.mem_or_eq_of_mem_set a with a|a
  ·rcases zK.1 a with a|a
   ·exact g p a
   ·exact c p a
  ·rw[a];exact b
section
variable {h:List Ob} {d:Nat} {s:Setup} {a:SA} {x c:AV} {segs:AV} {q:Cm}
theorem vha{s:Setup}(f:SFit s)(p:qx):Fit (vl s p)/\Fit (vl s p+1):=by
 have d: -1<=vl s p/\vl s p<9223372036854775807:=by
  cases b:z6 s
  ·have:vl s p= -1:=by simp[vl,b]
   omega
  ·cases a:rok p
   ·have:vl s p= -1:=by simp[vl,a]
    omega
   ·rcases yKa b a with⟨e,_⟩|⟨j,t,c,g,_⟩
    ·omega
    ·have:=(zd.1 c).1
     have:=f.nt
     omega
 constructor<;>(unfold Fit;omega)
theorem Vt{s:Setup}(f:SFit s)(l:List Ev)(w wk:Int)(d:l.length<=1000):(Fit (qm s l w wk).1.tier/\Fit ((qm s l w wk).1.tier+1))/\(qm s l w wk).2.length<524288:=by
 unfold qm
 split
 ·exact⟨by constructor<;>(show Fit _;unfold Fit;first|exact(by decide:(-9223372036854775808:Int)<= -1/\(-1:Int)<=9223372036854775807)|exact(by decide:(-9223372036854775808:Int)<= -1+1/\(-1+1:Int)<=9223372036854775807)),by show 0<524288;decide⟩
 ·constructor
  ·show Fit (ite _ (vl s _) (-1))/\Fit (ite _ (vl s _) (-1)+1)
   split
   ·exact vha f _
   ·constructor<;>(unfold Fit;decide)
  ·have a:= @WL s (evR s w l) w
   have b:(evR s w l).length<=l.length:=j5a s w l
   have c:=qw (λg=>QM (evR s w l) g==wk) (qA s (evR s w l) w).2
   show(List.filter _ _).length<_
   omega
theorem Wj{s:Setup}{b:Bk}{wk:Int}:(xj s b wk).length=s.rates.length:=by rw[xj,zb,js]
theorem w5a{s:Setup}{b:Bk}{wk:Int}{n:Nat}(h:n<s.rates.length):((xj s b wk).take (n+1)).map q9=((xj s b wk).take n).map q9++[q9 (qm s b.evs (n:Int) wk)]:=by
 have a:n<(xj s b wk).length:=by rw[Wj];exact h
 rw[show(xj s b wk).take (n+1)=(xj s b wk).take n++[(xj s b wk)[n]] from(zE a).symm,zw]
 simp[xj]
theorem KGa(i:h[d]? =some (.box 154 (qO s a x c 0 (.v (.slice none 0 0)) segs (.v (.slice none 0 0)) q)))(k:SIn h s a)(f:SFit s)(b:Bk)(hx:SlOf h x 11 (b.evs.map evC))(Z:b.evs.length<=1000)(hc:SlOf h c 1 (b.shut.map qn))(S:b.shut.length<1048576)(R:s.rates.length<4096):
  ACalls Tryz.prog 83 [.ptr d 0] h λr h'=>r= .tup []/\∃L y,h'=h.set d (.box 154 (qO s a x c (if jv b.shut q.week then 0 else 212) y segs (if jv b.shut q.week then .sl 1 ((j5 (xj s b q.week)).1.map xv) else .v (.slice none 0 0)) q))++L/\NoRes L/\
   New h 27 y ((if jv b.shut q.week then xj s b q.week else []).map q9) L:=by
 have hex:∃r h',(r=AV.tup []/\∃L y,h'=h.set d (.box 154 (qO s a x c (if jv b.shut q.week then 0 else 212) y segs (if jv b.shut q.week then .sl 1 ((j5 (xj s b q.week)).1.map xv) else .v (.slice none 0 0)) q))++L/\NoRes L/\
   New h 27 y ((if jv b.shut q.week then xj s b q.week else []).map q9) L)/\ResK h h':=
  ⟨_,_,⟨rfl,[],.sl 27 _,rfl,jh,λ_ _=>⟨rfl,λ_=>rfl⟩⟩,by rw[zH];exact qi i rfl⟩
 refine zi Tryz.f83 [] 64 rfl rfl rfl rfl rfl rfl (by decide) (hex) λB=>?_
 simp only[go_sem,i]
 refine zg (Yc i b.shut hc S q.week) ?_
 rintro _ h1 ⟨rfl,e1⟩
 rw[e1,show b.shut.any (q.week== ·)=jv b.shut q.week from rfl]
 simp only[go_sem]
 refine zg (Xj i (jv b.shut q.week) 212) ?_
 rintro _ X ⟨rfl,rfl⟩
 cases δ:jv b.shut q.week
 ·rw[show jK 0 false 212=212 from rfl]
  simp only[go_sem]
  exact⟨_,rfl,.inl ⟨rfl,[],_,by rw[zH],jh,λ_ _=>⟨rfl,λq=>absurd rfl q⟩⟩⟩
 ·rw[show jK 0 true 212=0 from rfl,qS i]
  have u:=(zd.1 i).1
  simp only[go_sem,i,k.r.rows,zb]
  refine zI (by decide) (λm T H=>∃(n:Nat) (y:AV),n<=s.rates.length/\DE h d (λy=> .box 154 (qO s a x c 0 y segs (.v (.slice none 0 0)) q)) y (((xj s b q.week).take n).map q9) H/\T 0= .ptr d 0/\T 18=i64 s.rates.length/\T 19=i64 n/\m=s.rates.length - n) s.rates.length
   ⟨0,_,by omega,by have:=DE.base (h:=h) (d:=d) (mk:=λy=> .box 154 (qO s a x c 0 y segs (.v (.slice none 0 0)) q));rw[qS i] at this;exact this,by simp only[go_sem],by(simp only[go_sem]<;>rfl),by(simp only[go_sem]<;>rfl),rfl⟩ ?_
  rintro m T H ⟨n,y,hn,z,t0,N,j,rfl⟩
  simp only[go_sem,N,j]
  have K:=zm (b:=Ob.box 154 (qO s a x c 0 y segs (.v (.slice none 0 0)) q)) i
  obtain⟨M,C,hM⟩:=z.eq
  have o:H[d]? =some (.box 154 (qO s a x c 0 y segs (.v (.slice none 0 0)) q)):=by rw[C];exact ze K
  have kk:RowsK h H:=by rw[C];exact λid ty e xs st hh=>ze (RowsK.setB i id ty e xs st hh)
  have k3:=k.keep kk
  have J:=hx.keep kk
  have η:h.length<=H.length:=by rw[C];simp
  refine ways (λe=>?_) (λe=>?_)
  ·have O:=dlt e
   simp only[go_sem]
   refine zL rfl [.res] 1 [(0,0,[]),(1,0,[]),(2,0,[]),(3,0,[]),(4,0,[]),(6,0,[]),(7,0,[]),(8,0,[]),(9,0,[]),(11,0,[]),(12,0,[]),(13,0,[]),(14,0,[]),(16,0,[]),(17,0,[]),(18,0,[]),(19,0,[]),(20,0,[]),(5,0,[]),(10,0,[]),(15,0,[]),(21,0,[]),(22,0,[5]),(23,0,[]),(24,0,[]),(25,0,[]),(26,0,[]),(27,0,[]),(28,0,[])] rfl (by decide) (by decide) ?_
   have g:∀M,(H++M)[d]? =some (.box 154 (qO s a x c 0 y segs (.v (.slice none 0 0)) q)):=λM=>ze o
   simp only[go_sem,g,t0,j]
   refine zg (zGb _ s a (k3.app _) f x b.evs n q.week (J.app _) Z) ?_
   rintro _ h3 ⟨rfl,P⟩
   rw[P]
   have A:=w5a (s:=s) (b:=b) (wk:=q.week) O
   obtain⟨W,hW⟩:∃W,W=qm s b.evs n q.week:=⟨_,rfl⟩
   rw[<-hW] at A⊢
   rcases z.own with⟨rfl,D⟩|⟨id,st,Y,rfl,u3⟩
   ·simp only[go_sem,g,j,ve,List.cons_append,List.nil_append]
    refine⟨s.rates.length - (n+1),by omega,n+1,.tl (H.length+1) 0,by omega,?_,by assumption,by assumption,qf (by omega) rfl,rfl⟩
    refine z.one u (zl rfl (zD rfl)) ?_
    refine OwnS.setB (.inr ⟨_,0,by omega,rfl,?_⟩) (g _)
    rw[A,D,zG (k:=1) rfl];rfl
   ·have F:∀M,(H++M)[id]? =some (.row 45 27 (((xj s b q.week).take n).map q9) st):=λM=>ze u3
    have E:((((xj s b q.week).take n).map q9).length+1)*233<=140737488355328:=by
     rw[zb,zJ]
     omega
    have l:∀M o',((H++M).set id o')[d]? =some (.box 154 (qO s a x c 0 (.tl id st) segs (.v (.slice none 0 0)) q)):=λM o'=>by
     rw[zc (by omega)];exact g M
    simp only[go_sem,g,j,F,E,l,ve,List.cons_append,List.nil_append]
    refine⟨s.rates.length - (n+1),by omega,n+1,.tl id (st+1),by omega,?_,by assumption,by assumption,qf (by omega) rfl,rfl⟩
    refine z.two u (zD rfl) Y rfl ?_
    refine OwnS.setB (.inr ⟨id,st+1,Y,rfl,?_⟩) (l _ _)
    rw[A]
    exact zm (F _)
  ·have β:=j9 e
   have I:n=s.rates.length:=by omega
   subst I
   have U:(xj s b q.week).take s.rates.length=xj s b q.week:=by rw[<-Wj (s:=s) (b:=b) (wk:=q.week),zP]
   rw[U] at z
   simp only[go_sem,t0,o]
   have Q:(xj s b q.week).map q9=((xj s b q.week).map λp:RowV × List Flg=>(⟨p.1,.sl 2 (p.2.map km),p.2⟩:RwA)).map λq=>vB q.1 q.2.1:=by rw[kE];rfl
   have t:kO ((xj s b q.week).map λp:RowV × List Flg=>(⟨p.1,.sl 2 (p.2.map km),p.2⟩:RwA))=xj s b q.week:=by rw[kO,kE];exact List.map_id _
   refine zg (Kra H y _ (by rw[<-Q];exact z.own.rows) (λp hp=>by
    obtain⟨r,hr,rfl⟩:=zr.1 hp
    obtain⟨w,_,rfl⟩:=zr.1 hr
    have:=Vt f b.evs (w:Int) q.week Z
    exact⟨⟨rfl,λ_=>rfl⟩,this.1,this.2⟩) (by rw[zb,Wj];exact R)) ?_
   rintro _ h3 ⟨rfl,P⟩
   rw[P,t]
   simp only[go_sem,o]
   have G:New h 27 y ((xj s b q.week).map q9) M:=by
    have V:=z.own
    rw[C] at V
    have:=V.new (by rw[zN];exact zo _)
    exact λX e=>this X (by rw[e,zN])
   refine⟨_,rfl,.inl ⟨rfl,M,y,?_,hM,G⟩⟩
   rw[C,qr _ _ (by rw[zN];exact u),qd]
end
open Go.Shelf Go.RowKit Go.Lib Go.Sort
def XU(x:Int):List Value:=[.int .i64 x]
theorem j7b(d:Array Int)(j:Nat)(h:j<d.size):(flatK XU 1 d)[j]! = .int .i64 d[j]! :=by
 rw[get_flatK _ _ _ _ (by omega),Nat.div_one,Nat.mod_one];rfl
theorem KHa(w:World)(blk off:Nat)(d:Array Int):putRow (Value.int .i64) w blk off d=putRow id w blk off (flatK XU 1 d):=by
 have:putCells (Value.int .i64) off d=putCells id off (flatK XU 1 d):=by
  funext c
  unfold putCells
  apply Array.ext_getElem?
  intro k
  simp only[Array.getElem?_mapIdx,size_flatK,Nat.mul_one,id]
  cases c[k]? with
  | none=>rfl
  | some y=>
    simp only[Option.map_some]
    by_cases a:off<=k/\k<off+d.size
    ·rw[if_pos a,if_pos a,j7b d _ (by omega)]
    ·rw[if_neg a,if_neg a]
 unfold putRow
 rw[this]
theorem w6a{n:Int}{l:List Int}(g:n∉l)(h:l.Pairwise (· < ·)):(l++[n]).mergeSort (λx y=>decide (x<=y))=Xm n l:=by
 have i:=List.mergeSort_perm (l++[n]) (λx y:Int=>decide (x<=y))
 have f:=List.pairwise_mergeSort (le:=λx y:Int=>decide (x<=y)) (λa b c p q=>by
  simp only[decide_eq_true_eq] at *; omega) (λa b=>by
  simp only[Bool.or_eq_true,decide_eq_true_eq];omega) (l++[n])
 have e:=We g h
 have d:((l++[n]).mergeSort λx y=>decide (x<=y)).Perm (Xm n l):=i.trans ((List.perm_append_comm).trans (jca n l).symm)
 refine List.Perm.eq_of_pairwise (le:=λa b:Int=>a<=b) (λa b _ _ p q=>by omega) ?_ ?_ d
 ·exact f.imp λp=>by simpa using p
 ·exact e.imp λp=>by omega
theorem KIa(h:List Ob)(id st:Nat)(l:List Int)(F:h[id]? =some (.row 3 1 (l.map qn) st))(Z:l.length<1099511627776)(A:l≠[]):
  ACalls Tryz.prog 166 [.tl id st] h λr h'=>r= .tup []/\h'=h.set id (.row 3 1 ((l.mergeSort λx y=>decide (x<=y)).map qn) st):=by
 refine⟨by kernel_rfl,⟨_,_,⟨rfl,rfl⟩,qi F rfl⟩,?_⟩
 intro φ X B w g vs M hB k
 have m:(fill φ h)[id]? =some (.row 3 1 (l.map λx=>(XU x).map .v) st):=qL F rfl
 obtain⟨v1,T,rfl,⟨_,D,q⟩,C⟩:=k
 have C:T=[]:=C
 subst C
 have S:v1=g.cur id:=(q st (by simp[ctx,m,Ob.tok])).2 rfl
 obtain⟨Y,W,cells,V,J⟩:=M.ok id _ m
 rw[zza] at J
 have P:=Vf J
 subst P
 have c:∀x,(XU x).length=1:=λ_=>rfl
 rcases V.2 with⟨_,f⟩|⟨o,cap,cur,f,O,u,E,U,L,K⟩
 ·exfalso
  simp at f
  exact A f
 ·have f:g.cur id=_:=f
  simp only[zb] at f E K
  have H:l.length*1<=cur.size:=by rw[L];exact Nat.mul_le_mul_right _ E
  have I:∀j,j<l.length*1->cur[j]? =some ((XU l.toArray[j / 1]!)[j % 1]!):=λj p=>by
   rw[<-Vk XU 1 (by decide) c l j p, <-K,qY,if_pos p,qC]
  have Q:Holds (Value.int .i64) w o 0 l.toArray:=λj p=>by
   have p:j<l.length:=by simpa using p
   refine⟨?_,?_⟩
   ·simp only[World.cell?,u,Nat.zero_add]
    have:=I j (by omega)
    rw[Nat.div_one,Nat.mod_one] at this
    exact this
   ·simp[World.frozen?,u]
  have i:Calls Tryz.prog 166 _ _ _:=AnyG.slices_Sort_int WPa o 0 cap l w Q (qN.1 u).1 (by omega)
  rw[S,f]
  refine i.mono ?_
  rintro e w' ⟨rfl,n,os,rfl⟩
  rw[KHa]
  obtain⟨a,t⟩:∃a,a=(l.mergeSort λx y=>decide (x<=y)).toArray:=⟨_,rfl⟩
  have G:(l.mergeSort λx y=>decide (x<=y))=a.toList:=by rw[t]
  rw[G,show a.toList.toArray=a from Array.toArray_toList]
  have z:a.size=l.length:=by rw[t];simp
  have R:(flatK XU 1 a).toList=Zk XU a.toList:=WH XU 1 (by decide) c a.toList
  have s:(flatK XU 1 a).size=l.length*1:=by simp[z]
  have d:=Zy (w':=grow (putRow _root_.id (Sort.ahead w n) o 0 (flatK XU 1 a)) os) (v':=g.cur id) (st':=st) (xs':=a.toList.map λx=>(XU x).map .v) (cells:=Zk XU a.toList) M hB m (by simp[c]) (by rw[f];exact VU w o n _ os)
   ⟨by rw[XK XU 1 c];simp,.inr ⟨o,cap,_,by simp[f,z],O,zaa w o n _ os u,by simp[z];exact E,U,by simp[putCells];rw[L,Nat.mul_one],by
    have:=zba (flatK XU 1 a) cur (by rw[s];exact H)
    rw[R,s] at this
    simpa [z] using this⟩⟩ (by rw[zza];exact JM _) (.inl ⟨rfl,rfl⟩) (λb N=> .inl N)
  rw[<-jj rfl] at d
  exact⟨_,_,_,_,rfl,⟨rfl,rfl⟩,qi F rfl,d, #[],rfl,rfl⟩
