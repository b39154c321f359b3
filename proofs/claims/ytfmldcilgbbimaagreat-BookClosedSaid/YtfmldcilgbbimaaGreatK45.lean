/-
  Joined.
-/
import Derived.Test.YtfmldcilgbbimaaGreatK43
import Derived.Test.YtfmldcilgbbimaaGreatK44
import Derived.Test.YtfmldcilgbbimaaGreatK38
import Derived.Test.YtfmldcilgbbimaaGreatK39
import Derived.Test.YtfmldcilgbbimaaGreatK34
set_option linter.unusedSimpArgs false
set_option linter.unusedVariables false
namespace Go.Proofs.YtfmldcilgbbimaaGreat.Ax
open Go Go.Proofs Go.RowKit
set_option maxRecDepth 100000
section
variable {P:Program} {N:Nat} {B:Bs} {c:Code} {Q:jv} {T:Env} {h:List Ob}
theorem kqa {id j ty:Nat} (y:h[id]? =some (.mapo [])) (I:h[j]? =some (.box ty [.mp id])) (k:∀l k0,AWp P N B c Q T ((h.set id (.raw l (.map #[] k0) [] [])).set j (.box ty [.v (.map (some l))]))):AWp P N B c Q T h:=λφ S w g a r=>by
 have f:=zN (φ:=φ) y rfl
 have K:=zN (φ:=φ) I rfl
 obtain ⟨M,es,k0,l',W,R,V,Z⟩:=r.ok.ok _ _ f
 have J:l'=[]:=List.Perm.eq_nil R
 subst J
 have o:es.toList=[]:=V
 have o:es= #[]:=by simpa using o
 subst o
 have C:id≠j:=λe=>by rw[e,I] at y;cases y
 have X:=(List.getElem?_eq_some_iff.1 y).1
 have A:w.grownBy w ((Ob.mapo []).blk g id):=⟨rfl,rfl,rfl,Nat.le_refl _,λ_ _ _=>rfl⟩
 have z:=Le.turn (g':=g) (o':= .raw (g.β id) (.map #[] k0) [] []) f rfl A (λ_ _=>rfl) (λ_ _=>rfl) (λb m=> .inl m) (λ_=>⟨rfl,λs F=>by cases F⟩)
 have H:Good B.b w g (fill φ h) w g ((fill φ h).set id (.raw (g.β id) (.map #[] k0) [] [])):=⟨r.ok.turn f A (λ_ _=>rfl) (λ_ _=>rfl) (λb m=> .inl m) z ⟨M,W,rfl⟩,z,Below.refl _ _,r.hB⟩
 have p:((fill φ h).set id (.raw (g.β id) (.map #[] k0) [] []))[j]? =some (.box ty [.mp id]):=by rw[List.getElem?_set_ne C];exact K
 obtain ⟨n1,vs,n2,u,q,n3,⟨_,n4⟩,n5⟩:=H.ok.ok _ _ p
 have n5:q=[]:=n5
 subst n5
 have n4:u= .map (some (g.β id)):=n4
 subst n4
 have x:w.grownBy w ((Ob.box ty [.mp id]).blk g j):=⟨rfl,rfl,rfl,Nat.le_refl _,λ_ _ _=>rfl⟩
 have D:=Le.turn (g':=g) (o':= .box ty [.v (.map (some (g.β id)))]) p rfl x (λ_ _=>rfl) (λ_ _=>rfl) (λb m=> .inl m) (λ_=>⟨rfl,λs F=>by cases F⟩)
 have Y:Good B.b w g ((fill φ h).set id (.raw (g.β id) (.map #[] k0) [] [])) w g (((fill φ h).set id (.raw (g.β id) (.map #[] k0) [] [])).set j (.box ty [.v (.map (some (g.β id)))])):=⟨H.ok.turn p x (λ_ _=>rfl) (λ_ _=>rfl) (λb m=> .inl m) D ⟨n1,vs,n2,_,_,n3,rfl,rfl⟩,D,Below.refl _ _,r.hB⟩
 have G:=H.trans Y
 rw[<-qn rfl, <-qn rfl] at G
 have E:ResK h ((h.set id (.raw (g.β id) (.map #[] k0) [] [])).set j (.box ty [.v (.map (some (g.β id)))])):=(zC y rfl).trans (zC (by rw[List.getElem?_set_ne C];exact I) rfl)
 exact wp_mono (k (g.β id) k0 φ (S.mono (by simp)) w g a ⟨G.ok,G.size,λi=>AR.le G.le _ _ (r.t i),r.d,r.n⟩) λe a' w' ⟨O,h',L,U⟩=>⟨O,h',L,U.trans E G⟩
end
section
variable {N:Nat} {T:Env} {h:List Ob} {K:Env->List Ob->Prop} {o:Oper}
theorem jLa {a:Act} {c:Ctx} (b:kU c T a) {d:Nat} {u:Value} (e:T d= .v u):a.eval (.tmp d)=u:=wt b (x:= .tmp d) e
theorem QE {φ:Nat->Ob} {B:Nat} {w:World} {g:Gh} (a:HOk B w g (fill φ h)) {id l:Nat} {ob:Obj} {ks us} (b:h[id]? =some (.raw l ob ks us)):w.heap[l]? =some ob:=(a.ok _ _ (zN b rfl)).2.1
theorem ZB {φ:Nat->Ob} {B:Nat} {w b:World} {g:Gh} (c:HOk B w g (fill φ h)) (hB:B<=w.heap.size) (e:b=w∨b=w.drew) {id l:Nat} {ob:Obj} (d:h[id]? =some (.raw l ob [] [])) (a:Obj):
  Good B w g (fill φ h) { b with heap:=b.heap.setIfInBounds l a } g (fill φ (h.set id (.raw l a [] []))):=by
 rw[qn rfl]
 rcases e with rfl | rfl
 ·exact yD c hB (zN d rfl) a
 ·exact (Good.drew c hB).trans (yD (Good.drew c hB).ok (Good.drew c hB).size (zN d rfl) a)
theorem kra (n:xq N o=true) {d id l:Nat} {es:Array MapEntry} {c:Nat} (b:o.op= .range 155 (.tmp d)) (m:T d= .v (.map (some l))) (j:h[id]? =some (.raw l (.map es c) [] []))
  (k:∀r,K (zZ T o.dst (.v (.pointer (some ⟨r,0,none⟩)))) (h++[.raw r (.mapIter (some l) c #[] c) [] []])):ZK Tryz.prog N o K T h:=yZ n λφ s B w g a i hB t=>by
 have p:=QE i j
 have e:=jLa t m
 have q:=run_range_map (P:=Tryz.prog) w 155 _ _ l es c Xs p
 have f:=Vd (g:=g) i hB (.mapIter (some l) c #[] c) (ks:=[]) (us:=[]) rfl
 rw[<-qR s] at f
 refine ⟨_,_,_,g,_,_,?_,.inl rfl,k w.heap.size,zR,f,rfl⟩
 obtain ⟨dst,op,type,pos,after,guard⟩:=o
 simp only at b
 subst b
 simp only[execOp,e]
 simp[q]
theorem wZa (y:xq N o=true) {d id i l r:Nat} {es:Array MapEntry} {c b c0:Nat} {seen:Array Nat} (j:o.op= .next (.tmp d) false) (u:T d= .v (.pointer (some ⟨r,0,none⟩))) (t:h[id]? =some (.raw l (.map es c) [] [])) (n:h[i]? =some (.raw r (.mapIter (some l) b seen c0) [] []))
  (f:∀x∈es.toList,x.born<b) (q:b<=c0)
  (k0:(leftOf es seen).size=0->K (zZ T o.dst (.tup [.v (.bool false)])) h)
  (k1:∀e∈(leftOf es seen).toList,K (zZ T o.dst (.tup [.v (.bool true),ofV e.key,ofV e.val])) (h.set i (.raw r (.mapIter (some l) b (seen.push e.born) c) [] []))):ZK Tryz.prog N o K T h:=yZ y λφ C B w g a k hB z=>by
 have e:=jLa z u
 rcases run_next_at (P:=Tryz.prog) w o.type r l b c0 seen es c (QE k n) (QE k t) f q with ⟨z0,m⟩ | ⟨x,s,A,p,m⟩
 ·refine ⟨_,_,w,g,_,h,?_,.inl rfl,k0 z0,.refl,Good.refl k hB, #[.bool false],rfl,_,_,rfl,rfl,rfl⟩
  obtain ⟨dst,op,type,pos,after,guard⟩:=o
  simp only at j
  subst j
  simp only[execOp,e]
  simp[m]
 ·refine ⟨_,_,_,g,_,_,?_,.inl rfl,k1 x s,zC n rfl,ZB k hB p n _, #[.bool true,x.key,x.val],rfl,_,_,rfl,rfl,_,_,rfl,Va _,_,_,rfl,Va _,rfl⟩
  obtain ⟨dst,op,type,pos,after,guard⟩:=o
  simp only at j
  subst j
  simp only[execOp,e]
  simp[m]
  rfl
theorem ksa (q:xq N o=true) {d id i l r:Nat} {es:Array MapEntry} {c b:Nat} {seen:Array Nat} {x:MapEntry} (j:o.op= .entry (.tmp d)) (p:T d= .v (.pointer (some ⟨r,0,none⟩))) (n:h[id]? =some (.raw l (.map es c) [] [])) (s:h[i]? =some (.raw r (.mapIter (some l) b (seen.push x.born) c) [] []))
  (m:x∈es.toList) (t:(es.toList.map (·.born)).Nodup) (k:K (zZ T o.dst (.tup [ofV x.key,ofV x.val])) h):ZK Tryz.prog N o K T h:=yZ q λφ y B w g a f hB u=>by
 have e:=jLa u p
 have z:=run_entry_at (P:=Tryz.prog) w r l b seen es c x (QE f s) (QE f n) m t
 refine ⟨_,_,w,g,_,h,?_,.inl rfl,k,.refl,Good.refl f hB, #[x.key,x.val],rfl,_,_,rfl,Va _,_,_,rfl,Va _,rfl⟩
 obtain ⟨dst,op,type,pos,after,guard⟩:=o
 simp only at j
 subst j
 simp only[execOp,e]
 simp[z]
theorem Qja {a:Act} {c:Ctx} (l:kU c T a) {d:Nat} {k:Int × Int} (e:T d= .ag [i64 k.1,i64 k.2]):a.eval (.tmp d)=xo k:=by
 have:=qJ l (.tmp d)
 rw[show ev T (.tmp d)=T d from rfl,e] at this
 obtain ⟨vs,i,_,_,j,g,_,_,h,b,f⟩:=this
 have g:_=Value.int .i64 k.1:=g
 have b:_=Value.int .i64 k.2:=b
 have f:_=([]:List Value):=f
 subst g b f
 subst h
 rw[i]
 unfold xo
 congr 1
 exact Array.toList_inj.1 j
theorem kta (r:xq N o=true) {d q id l:Nat} {es:Array MapEntry} {c:Nat} {ks:List (Int × Int)} {y:Int × Int} (b:o.op= .lookup 155 (.tmp d) (.tmp q) false) (p:T d= .v (.map (some l))) (s:T q= .ag [i64 y.1,i64 y.2]) (m:h[id]? =some (.raw l (.map es c) [] [])) (j:KM es c ks)
  (k:∀n,K (zZ T o.dst (i64 n)) h):ZK Tryz.prog N o K T h:=yZ r λφ u B w g a f hB i=>by
 have e:=jLa i p
 have t:=Qja i s
 obtain ⟨n,z⟩:=wVa w l y j (QE f m)
 refine ⟨_,_,w,g,_,h,?_,.inl rfl,k n,.refl,Good.refl f hB,rfl⟩
 obtain ⟨dst,op,type,pos,after,guard⟩:=o
 simp only at b
 subst b
 simp only[execOp,e,t]
 simp[z]
theorem jMa (s:xq N o=true) {d q id l:Nat} {es:Array MapEntry} {c:Nat} {ks:List (Int × Int)} {y:Int × Int} (f:o.op= .mapEntry 155 (.tmp d) (.tmp q)) (r:T d= .v (.map (some l))) (u:T q= .ag [i64 y.1,i64 y.2]) (b:h[id]? =some (.raw l (.map es c) [] [])) (p:KM es c ks)
  (k:∀es' c' n (st:Nat),KM es' c' (ZA ks y)->(∃e∈es'.toList,e.born=st)->K (zZ T o.dst (.tup [i64 n,i64 st])) (h.set id (.raw l (.map es' c') [] []))):ZK Tryz.prog N o K T h:=yZ s λφ z B w g a i hB j=>by
 have e:=jLa j r
 have x:=Qja j u
 obtain ⟨es',c',n,st,m,t,z3⟩:=WK w l y p (QE i b)
 refine ⟨_,_,_,g,_,_,?_,.inl rfl,k es' c' n st t z3,zC b rfl,ZB i hB (.inl rfl) b _, #[.int .i64 n,.int .i64 st],rfl,_,_,rfl,rfl,_,_,rfl,rfl,rfl⟩
 obtain ⟨dst,op,type,pos,after,guard⟩:=o
 simp only at f
 subst f
 simp only[execOp,e,x]
 simp[m]
theorem jNa (t:xq N o=true) {d q x id l:Nat} {es:Array MapEntry} {c:Nat} {ks:List (Int × Int)} {st:Nat} {n:Int} (i:o.op= .entryStore 155 (.tmp d) (.tmp q) (.tmp x)) (s:T d= .v (.map (some l))) (A:T q=i64 st) (p:T x=i64 n) (b:h[id]? =some (.raw l (.map es c) [] [])) (r:KM es c ks) (D:∃e∈es.toList,e.born=st)
  (k:∀es' u,KM es' c ks->(∃e∈es'.toList,e.born=st)->K (zZ T o.dst u) (h.set id (.raw l (.map es' c) [] []))):ZK Tryz.prog N o K T h:=yZ t λφ E B w g a j hB f=>by
 have e:=jLa f s
 have C:=jLa f A
 have y:=jLa f p
 obtain ⟨es',m,z,z3⟩:=kpa w l st n r (QE j b) D
 refine ⟨.skip,undef,_,g,.v undef,_,?_,.inr ⟨rfl,rfl⟩,k es' _ z z3,zC b rfl,ZB j hB (.inl rfl) b _,rfl⟩
 obtain ⟨dst,op,type,pos,after,guard⟩:=o
 simp only at i
 subst i
 simp only[execOp,e,C,y]
 simp[m]
end
end Go.Proofs.YtfmldcilgbbimaaGreat.Ax
namespace Go.Proofs.YtfmldcilgbbimaaGreat.Ax
open Go Go.Proofs Go.Shelf Go.RowKit Go.Lib Go.Sort
set_option maxRecDepth 100000
def Vja (x:Int × Int):List Value:=[.int .i64 x.1,.int .i64 x.2]
def y7 (x:Int × Int):List AV:=[i64 x.1,i64 x.2]
theorem Qma {n:Nat}:∀l:List (Int × Int),zU n (l.map y7)=true
 | []=>rfl
 | s::l=>by
   rw[List.map_cons,zU,Qma l];rfl
def kva (x y:Int × Int):Int:=y6 (Lib.compareInt x.1 y.1) (Lib.compareInt x.2 y.2)
theorem Qna (x y:Int × Int):ltOf kva x y=ltK x y:=by
 rw[Bool.eq_iff_iff,xn]
 unfold ltOf kva y6 Lib.compareInt
 by_cases a:x.1<y.1
 ·simp[a]
 ·by_cases b:y.1<x.1
  ·simp[a,b]
   omega
  ·by_cases c:x.2<y.2
   ·simp[a,b,c]
    omega
   ·by_cases d:y.2<x.2<;>(simp[a,b,c,d])
theorem Y5a:SWO (ltOf kva):=
 { irrefl:=λx=>by rw[Qna,Bool.eq_false_iff];intro q;rw[xn] at q;omega
   trans:=λx y z a b=>by rw[Qna,xn] at *; omega
   ntrans:=λx y z a b=>by
    rw[Qna,Bool.eq_false_iff,Ne,xn] at*
    omega }
theorem Xda (h:List Ob) (id st:Nat) (l:List (Int × Int)) (j:h[id]? =some (.row 89 2 (l.map y7) st)) (m:l.length<1099511627776):
  ACalls Tryz.prog 92 [.tl id st,.fn (.func 93) [] []] h λr h'=>r= .tup []/\∃l':List (Int × Int),l'.Perm l/\(l'.Pairwise λa b=>ltOf kva b a=false)/\h'=h.set id (.row 89 2 (l'.map y7) st):=by
 refine ZRa Vja 2 (by decide) (λ_=>rfl) (ltOf kva) (by kernel_rfl) (λl=>?_) ?_ ?_ h id st l j m
 ·refine ⟨_,List.mergeSort_perm l (λa b=> !ltK b a),?_⟩
  have:=List.pairwise_mergeSort (le:=λa b:Int × Int=> !ltK b a) (λa b c p o=>by
   rw[Bool.not_eq_true',Bool.eq_false_iff,Ne,xn] at *; omega) (λa b=>by
   rw[Bool.or_eq_true,Bool.not_eq_true',Bool.not_eq_true',Bool.eq_false_iff,Bool.eq_false_iff,Ne,Ne,xn,xn];omega) l
  exact this.imp λh=>by rw[Qna];simpa using h
 ·intro blk off cap d w n f g
  have k:∀args w,(callFunc 93 args).run Tryz.prog w= .ok (.enter 93 args) w:=enters_of Tryz.func93 (by kernel_rfl) rfl
  have e:=AnyQ.slices_SortFunc zVa 2 Tryz.isAgg89 Tryz.sizeOf89 Vja (λ_=>rfl) (λx v i=>by simp[Vja] at i;rcases i with rfl | rfl<;>rfl) kva Y5a 93 #[] blk off cap d w k (λ_ _ _ _ x y=>Qla x y _) n f g
  exact e
 ·intro A cap w
  have e:=AnyF.slices_SortFunc_none zVa A cap (.func (.func 93) #[] #[]) w
  exact e
theorem Xea (x:AV):ji Tryz.prog 92 [.v (.slice none 0 0),x] (.tup []):=λh=>by
 refine ⟨by kernel_rfl,⟨_,_,⟨rfl,rfl⟩,.refl⟩,?_⟩
 intro φ l B w g vs i hB a
 obtain ⟨v1,k,rfl,c,j,f,rfl,_,d⟩:=a
 have d:f=[]:=d
 subst d
 have c:v1= .slice none 0 0:=c
 subst c
 have b:=AnyF.slices_SortFunc_none zVa none 0 j w
 refine Calls.mono b ?_
 rintro e w' ⟨rfl,rfl⟩
 exact ⟨_,_,_,_,rfl,⟨rfl,rfl⟩,.refl,Good.refl i hB, #[],rfl,rfl⟩
theorem jPa {l l' ks:List (Int × Int)} (d:l'.Perm l) (j:l'.Pairwise λa b=>ltOf kva b a=false) (i:l.Nodup) (h:ks.Pairwise λa b=>ltK a b=true) (f:∀z,z∈l↔z∈ks):l'=ks:=by
 refine vpa ?_ h λz=>(d.mem_iff).trans (f z)
 have c:l'.Nodup:=d.nodup_iff.2 i
 refine List.Pairwise.imp₂ ?_ j c
 intro a b g e
 rw[Qna,Bool.eq_false_iff,Ne,xn] at g
 rw[xn]
 have:¬ (a.1=b.1/\a.2=b.2):=λq=>e (Prod.ext q.1 q.2)
 omega
theorem Vka (h:List Ob) (id st:Nat) (l ks:List (Int × Int)) (d:h[id]? =some (.row 89 2 (l.map y7) st)) (i:l.length<1099511627776) (k:l.Nodup) (j:ks.Pairwise λa b=>ltK a b=true) (f:∀z,z∈l↔z∈ks):
  ACalls Tryz.prog 92 [.tl id st,.fn (.func 93) [] []] h λr h'=>r= .tup []/\h'=h.set id (.row 89 2 (ks.map y7) st):=
 (Xda h id st l d i).mono λr h' ⟨e,l',g,c,m⟩=>⟨e,by rw[m,jPa g c k j f]⟩
end Go.Proofs.YtfmldcilgbbimaaGreat.Ax
namespace Go.Proofs.YtfmldcilgbbimaaGreat.Ax
open Go Go.Proofs
set_option maxRecDepth 100000
theorem zWa {S:Nat->Bool} {i j:Nat} (h:j≠i) (q:(if j=i then true else S j)=false):S j=false:=by rw[if_neg h] at q;exact q
theorem qg {S:Nat->Bool} {i j:Nat} (h:j≠i) (q:(if j=i then true else S j)=true):S j=true:=by rw[if_neg h] at q;exact q
structure JT (H:List Ob) (id l i3 j:Nat) (e:Ev) (w:Int) (ks:List (Int × Int)) (u1 u5:AV) (S:Nat->Bool) (T:Env) (h:List Ob):Prop where
 t1:T 1=u1
 t2:T 2= .ptr j 0
 t3:T 3= .ptr i3 0
 t5:T 5=u5
 t6:T 6=i64 w
 k0:S 0=true->T 20= .v (.map (some l))
 k1:S 1=true->T 21= .ptr i3 1
 k2:S 2=true->T 22=i64 e.worker
 k3:S 3=true->T 23=i64 w
 k4:S 4=true->T 24= .ag [i64 e.worker,i64 w]
 k5:S 5=true->∃n,T 25=i64 n
 k6:S 6=true->∃n,T 26=i64 n
 k8:S 8=true->S 7=true
 k7:∃es c ks',h=H.set id (.raw l (.map es c) [] [])/\KM es c ks'/\(S 7=false->ks'=ks)/\(S 7=true->ks'=ZA ks (e.worker,w)/\∃(n:Int) (st:Nat),T 27= .tup [i64 n,i64 st]/\(S 8=true->T 28=i64 st)/\∃x∈es.toList,x.born=st)
theorem vta (h:List Ob) (s:Setup) (a:SA) (k:SIn h s a) (i j id l:Nat) (hi:h[i]? =some (.box 30 (zr s a))) (hj:h[j]? =some (.box 155 [.v (.map (some l))])) (es:Array MapEntry) (c:Nat) (ks:List (Int × Int)) (hid:h[id]? =some (.raw l (.map es c) [] [])) (hm:KM es c ks) (e:Ev):
  ACalls Tryz.prog 89 [evV e,.ptr i 0,.ptr j 0] h λr h'=>r= .tup []/\∃es' c',KM es' c' ((wZ s e).foldl ZA ks)/\h'=h.set id (.raw l (.map es' c') [] []):=by
 obtain ⟨kk,O⟩:∃kk,kk=wW s e.at_:=⟨_,rfl⟩
 have hb:(0<=kk.1/\kk.1<53)/\0<=kk.2/\kk.2<53:=by rw[O];exact ⟨Zy _,Zy _⟩
 obtain ⟨cnt,V⟩:∃cnt,cnt=(kk.2 - kk.1+1).toNat:=⟨_,rfl⟩
 have τ:∀M,(h++M)[j]? =some (.box 155 [.v (.map (some l))]):=λM=>zb hj
 have α:∀M,(h++M)[i]? =some (.box 30 (zr s a)):=λM=>zb hi
 have N:wZ s e=(List.range cnt).map λn:Nat=>(e.worker,kk.1+(n:Int)):=by
  unfold wZ QA
  rw[List.map_map, <-O, <-V]
  rfl
 have hex:∃r h',(r=AV.tup []/\∃es' c',KM es' c' ((wZ s e).foldl ZA ks)/\h'=h.set id (.raw l (.map es' c') [] []))/\ResK h h':=by
  have D:∀(L:List (Int × Int)) (es:Array MapEntry) (c:Nat) (ks:List (Int × Int)),KM es c ks->∃es' c',KM es' c' (L.foldl ZA ks):=λL=>by
   induction L with
   | nil=>exact λes c ks h=>⟨es,c,h⟩
   | cons y L ih=>
     intro es c ks h
     obtain ⟨es',c',_,_,_,h2,_⟩:=WK (⟨#[.map es c],λ_ _=>0,0,default, #[]⟩:World) 0 y h rfl
     exact ih es' c' _ h2
  obtain ⟨es',c',h2⟩:=D (wZ s e) es c ks hm
  exact ⟨_,_,⟨rfl,es',c',h2,rfl⟩,zC hid rfl⟩
 refine zf Tryz.f89 [] 29 rfl rfl rfl rfl rfl rfl (by decide) (hex) λB=>?_
 simp only[go_sem,α,k.ones]
 refine zc (KWa _ s a (k.app _) e.at_) ?_
 rintro _ h1 ⟨rfl,e1⟩
 rw[e1, <-O]
 simp only[go_sem,Q4]
 refine zj (by decide) (λm T h'=>∃(n:Nat) (es':Array MapEntry) (c':Nat),n<=cnt/\KM es' c' (((List.range n).map λn:Nat=>(e.worker,kk.1+(n:Int))).foldl ZA ks)/\h'=h.set id (.raw l (.map es' c') [] [])++[.box 73 (evC e)]/\T 1= .ptr i 0/\T 2= .ptr j 0/\T 3= .ptr h.length 0/\T 5=i64 kk.2/\T 6=i64 (kk.1+(n:Int))/\m=cnt - n) cnt
  ⟨0,es,c,by omega,hm,by rw[zT hid],by simp only[go_sem],by simp only[go_sem],by simp only[go_sem],by simp only[go_sem],by (simp only[go_sem]<;>simp),rfl⟩ ?_
 rintro m T h' ⟨n,es',c',hn,K,rfl,t1,t2,t3,t5,t6,rfl⟩
 simp only[go_sem,t6,t5]
 refine ways (λq=>?_) (λq=>?_)
 ·have ψ:kk.1+(n:Int)<=kk.2:=by simpa using q
  have ρ:n<cnt:=by omega
  have β:IntKind.wrap .i64 (kk.1+(n:Int)+1)=kk.1+(n:Int)+1:=zI (n:=kk.1+(n:Int)+1) (by unfold Fit;omega)
  simp only[go_sem]
  obtain ⟨H,G⟩:∃H,H=h.set id (.raw l (.map es' c') [] [])++[.box 73 (evC e)]:=⟨_,rfl⟩
  have E:=(List.getElem?_eq_some_iff.1 hid).1
  have X:H[id]? =some (.raw l (.map es' c') [] []):=by rw[G,List.getElem?_append_left (by rw[List.length_set];exact E),List.getElem?_set_self E]
  have W:id≠j:=λq=>by rw[q,hj] at hid;cases hid
  have η:∀o,(H.set id o)[j]? =some (.box 155 [.v (.map (some l))]):=λo=>by
   rw[List.getElem?_set_ne W,G]
   refine zb ?_
   rw[List.getElem?_set_ne W]
   exact hj
  have κ:∀o,(H.set id o)[h.length]? =some (.box 73 (evC e)):=λo=>by
   rw[List.getElem?_set_ne (by omega),G,zo (by rw[List.length_set])]
   rfl
  rw[<-G]
  obtain ⟨Z,P⟩:∃Z,Z=((List.range n).map λn:Nat=>(e.worker,kk.1+(n:Int))).foldl ZA ks:=⟨_,rfl⟩
  rw[<-P] at K
  refine j5 (Xca (by kernel_rfl) (by decide) ?_ (JT H id l h.length j e (kk.1+(n:Int)) Z (.ptr i 0) (i64 kk.2)) ⟨by simp only[go_sem,t1],by simp only[go_sem,t2],by simp only[go_sem,t3],by simp only[go_sem,t5],by simp only[go_sem,t6],(λq=>by cases q),(λq=>by cases q),(λq=>by cases q),(λq=>by cases q),(λq=>by cases q),(λq=>by cases q),(λq=>by cases q),(λq=>by cases q),es',c',Z,by rw[zT X],K,λ_=>rfl,λq=>by cases q⟩ ?_ ?_)
  ·intro i o b
   match i,b with
   | 0,b=>injection b with b;subst b;rfl
   | 1,b=>injection b with b;subst b;rfl
   | 2,b=>injection b with b;subst b;rfl
   | 3,b=>injection b with b;subst b;rfl
   | 4,b=>injection b with b;subst b;rfl
   | 5,b=>injection b with b;subst b;rfl
   | 6,b=>injection b with b;subst b;rfl
   | 7,b=>injection b with b;subst b;rfl
   | 8,b=>injection b with b;subst b;rfl
   | 9,b=>injection b with b;subst b;rfl
   | n+10,b=>cases b
  ·rintro i o S T h' b U f J
   match i,b with
   | 0,b=>
     injection b with b
     subst b
     simp only[List.getElem_toArray,List.getElem_cons_zero,List.getElem_cons_succ] at f⊢
     obtain ⟨g,t,p,a1,a2,a3,a4⟩:=J.k7
     subst a1
     refine vY (by decide) ?_
     simp only[go_sem,J.t2,η]
     exact ⟨by simp only[go_sem,J.t1],by simp only[go_sem,J.t2],by simp only[go_sem,J.t3],by simp only[go_sem,J.t5],by simp only[go_sem,J.t6],λ_=>by simp only[go_sem],λq=>by have z:=J.k1 (qg (by decide) q);simp only[go_sem,z],λq=>by have z:=J.k2 (qg (by decide) q);simp only[go_sem,z],λq=>by have z:=J.k3 (qg (by decide) q);simp only[go_sem,z],λq=>by have z:=J.k4 (qg (by decide) q);simp only[go_sem,z],λq=>let ⟨n,z⟩:=J.k5 (qg (by decide) q);⟨n,by simp only[go_sem,z]⟩,λq=>let ⟨n,z⟩:=J.k6 (qg (by decide) q);⟨n,by simp only[go_sem,z]⟩,λq=>J.k8 (qg (by decide) q),g,t,p,rfl,a2,λq=>a3 (zWa (by decide) q),λq=>let ⟨A,w,st,C,z3,z4⟩:=a4 (qg (by decide) q);⟨A,w,st,by simp only[go_sem,C],λq=>by have z:=z3 (qg (by decide) q);simp only[go_sem,z],z4⟩⟩
   | 1,b=>
     injection b with b
     subst b
     simp only[List.getElem_toArray,List.getElem_cons_zero,List.getElem_cons_succ] at f⊢
     obtain ⟨g,t,p,a1,a2,a3,a4⟩:=J.k7
     subst a1
     refine vY (by decide) ?_
     simp only[go_sem,J.t3]
     exact ⟨by simp only[go_sem,J.t1],by simp only[go_sem,J.t2],by simp only[go_sem,J.t3],by simp only[go_sem,J.t5],by simp only[go_sem,J.t6],λq=>by have z:=J.k0 (qg (by decide) q);simp only[go_sem,z],λ_=>by simp only[go_sem],λq=>by have z:=J.k2 (qg (by decide) q);simp only[go_sem,z],λq=>by have z:=J.k3 (qg (by decide) q);simp only[go_sem,z],λq=>by have z:=J.k4 (qg (by decide) q);simp only[go_sem,z],λq=>let ⟨n,z⟩:=J.k5 (qg (by decide) q);⟨n,by simp only[go_sem,z]⟩,λq=>let ⟨n,z⟩:=J.k6 (qg (by decide) q);⟨n,by simp only[go_sem,z]⟩,λq=>J.k8 (qg (by decide) q),g,t,p,rfl,a2,λq=>a3 (zWa (by decide) q),λq=>let ⟨A,w,st,C,z3,z4⟩:=a4 (qg (by decide) q);⟨A,w,st,by simp only[go_sem,C],λq=>by have z:=z3 (qg (by decide) q);simp only[go_sem,z],z4⟩⟩
   | 2,b=>
     injection b with b
     subst b
     simp only[List.getElem_toArray,List.getElem_cons_zero,List.getElem_cons_succ] at f⊢
     have e1:=J.k1 (f 1 (by decide))
     obtain ⟨g,t,p,a1,a2,a3,a4⟩:=J.k7
     subst a1
     refine vY (by decide) ?_
     simp only[go_sem,e1,κ]
     exact ⟨by simp only[go_sem,J.t1],by simp only[go_sem,J.t2],by simp only[go_sem,J.t3],by simp only[go_sem,J.t5],by simp only[go_sem,J.t6],λq=>by have z:=J.k0 (qg (by decide) q);simp only[go_sem,z],λq=>by have z:=J.k1 (qg (by decide) q);simp only[go_sem,z],λ_=>by simp only[go_sem],λq=>by have z:=J.k3 (qg (by decide) q);simp only[go_sem,z],λq=>by have z:=J.k4 (qg (by decide) q);simp only[go_sem,z],λq=>let ⟨n,z⟩:=J.k5 (qg (by decide) q);⟨n,by simp only[go_sem,z]⟩,λq=>let ⟨n,z⟩:=J.k6 (qg (by decide) q);⟨n,by simp only[go_sem,z]⟩,λq=>J.k8 (qg (by decide) q),g,t,p,rfl,a2,λq=>a3 (zWa (by decide) q),λq=>let ⟨A,w,st,C,z3,z4⟩:=a4 (qg (by decide) q);⟨A,w,st,by simp only[go_sem,C],λq=>by have z:=z3 (qg (by decide) q);simp only[go_sem,z],z4⟩⟩
   | 3,b=>
     injection b with b
     subst b
     simp only[List.getElem_toArray,List.getElem_cons_zero,List.getElem_cons_succ] at f⊢
     obtain ⟨g,t,p,a1,a2,a3,a4⟩:=J.k7
     subst a1
     refine vY (by decide) ?_
     simp only[go_sem,J.t6]
     exact ⟨by simp only[go_sem,J.t1],by simp only[go_sem,J.t2],by simp only[go_sem,J.t3],by simp only[go_sem,J.t5],by simp only[go_sem,J.t6],λq=>by have z:=J.k0 (qg (by decide) q);simp only[go_sem,z],λq=>by have z:=J.k1 (qg (by decide) q);simp only[go_sem,z],λq=>by have z:=J.k2 (qg (by decide) q);simp only[go_sem,z],λ_=>by simp only[go_sem],λq=>by have z:=J.k4 (qg (by decide) q);simp only[go_sem,z],λq=>let ⟨n,z⟩:=J.k5 (qg (by decide) q);⟨n,by simp only[go_sem,z]⟩,λq=>let ⟨n,z⟩:=J.k6 (qg (by decide) q);⟨n,by simp only[go_sem,z]⟩,λq=>J.k8 (qg (by decide) q),g,t,p,rfl,a2,λq=>a3 (zWa (by decide) q),λq=>let ⟨A,w,st,C,z3,z4⟩:=a4 (qg (by decide) q);⟨A,w,st,by simp only[go_sem,C],λq=>by have z:=z3 (qg (by decide) q);simp only[go_sem,z],z4⟩⟩
   | 4,b=>
     injection b with b
     subst b
     simp only[List.getElem_toArray,List.getElem_cons_zero,List.getElem_cons_succ] at f⊢
     have e2:=J.k2 (f 2 (by decide))
     have e3:=J.k3 (f 3 (by decide))
     obtain ⟨g,t,p,a1,a2,a3,a4⟩:=J.k7
     subst a1
     refine vY (by decide) ?_
     simp only[go_sem,e2,e3]
     exact ⟨by simp only[go_sem,J.t1],by simp only[go_sem,J.t2],by simp only[go_sem,J.t3],by simp only[go_sem,J.t5],by simp only[go_sem,J.t6],λq=>by have z:=J.k0 (qg (by decide) q);simp only[go_sem,z],λq=>by have z:=J.k1 (qg (by decide) q);simp only[go_sem,z],λq=>by have z:=J.k2 (qg (by decide) q);simp only[go_sem,z],λq=>by have z:=J.k3 (qg (by decide) q);simp only[go_sem,z],λ_=>by simp only[go_sem],λq=>let ⟨n,z⟩:=J.k5 (qg (by decide) q);⟨n,by simp only[go_sem,z]⟩,λq=>let ⟨n,z⟩:=J.k6 (qg (by decide) q);⟨n,by simp only[go_sem,z]⟩,λq=>J.k8 (qg (by decide) q),g,t,p,rfl,a2,λq=>a3 (zWa (by decide) q),λq=>let ⟨A,w,st,C,z3,z4⟩:=a4 (qg (by decide) q);⟨A,w,st,by simp only[go_sem,C],λq=>by have z:=z3 (qg (by decide) q);simp only[go_sem,z],z4⟩⟩
   | 5,b=>
     injection b with b
     subst b
     simp only[List.getElem_toArray,List.getElem_cons_zero,List.getElem_cons_succ] at f⊢
     have Q:=J.k0 (f 0 (by decide))
     have e4:=J.k4 (f 4 (by decide))
     obtain ⟨g,t,p,a1,a2,a3,a4⟩:=J.k7
     subst a1
     refine kta (d:=20) (q:=24) (y:=(e.worker,kk.1+(n:Int))) (by decide) rfl Q e4 (List.getElem?_set_self (by rw[G,List.length_append,List.length_set];omega)) a2 λn5=>?_
     exact ⟨by simp only[go_sem,J.t1],by simp only[go_sem,J.t2],by simp only[go_sem,J.t3],by simp only[go_sem,J.t5],by simp only[go_sem,J.t6],λq=>by have z:=J.k0 (qg (by decide) q);simp only[go_sem,z],λq=>by have z:=J.k1 (qg (by decide) q);simp only[go_sem,z],λq=>by have z:=J.k2 (qg (by decide) q);simp only[go_sem,z],λq=>by have z:=J.k3 (qg (by decide) q);simp only[go_sem,z],λq=>by have z:=J.k4 (qg (by decide) q);simp only[go_sem,z],λ_=>⟨n5,by simp only[go_sem]⟩,λq=>let ⟨n,z⟩:=J.k6 (qg (by decide) q);⟨n,by simp only[go_sem,z]⟩,λq=>J.k8 (qg (by decide) q),g,t,p,rfl,a2,λq=>a3 (zWa (by decide) q),λq=>let ⟨A,w,st,C,z3,z4⟩:=a4 (qg (by decide) q);⟨A,w,st,by simp only[go_sem,C],λq=>by have z:=z3 (qg (by decide) q);simp only[go_sem,z],z4⟩⟩
   | 6,b=>
     injection b with b
     subst b
     simp only[List.getElem_toArray,List.getElem_cons_zero,List.getElem_cons_succ] at f⊢
     obtain ⟨n5,e5⟩:=J.k5 (f 5 (by decide))
     obtain ⟨g,t,p,a1,a2,a3,a4⟩:=J.k7
     subst a1
     refine vY (by decide) ?_
     simp only[go_sem,e5]
     exact ⟨by simp only[go_sem,J.t1],by simp only[go_sem,J.t2],by simp only[go_sem,J.t3],by simp only[go_sem,J.t5],by simp only[go_sem,J.t6],λq=>by have z:=J.k0 (qg (by decide) q);simp only[go_sem,z],λq=>by have z:=J.k1 (qg (by decide) q);simp only[go_sem,z],λq=>by have z:=J.k2 (qg (by decide) q);simp only[go_sem,z],λq=>by have z:=J.k3 (qg (by decide) q);simp only[go_sem,z],λq=>by have z:=J.k4 (qg (by decide) q);simp only[go_sem,z],λq=>let ⟨n,z⟩:=J.k5 (qg (by decide) q);⟨n,by simp only[go_sem,z]⟩,λ_=>⟨IntKind.i64.wrap (n5+1),by simp only[go_sem]⟩,λq=>J.k8 (qg (by decide) q),g,t,p,rfl,a2,λq=>a3 (zWa (by decide) q),λq=>let ⟨A,w,st,C,z3,z4⟩:=a4 (qg (by decide) q);⟨A,w,st,by simp only[go_sem,C],λq=>by have z:=z3 (qg (by decide) q);simp only[go_sem,z],z4⟩⟩
   | 7,b=>
     injection b with b
     subst b
     simp only[List.getElem_toArray,List.getElem_cons_zero,List.getElem_cons_succ] at f⊢
     have Q:=J.k0 (f 0 (by decide))
     have e4:=J.k4 (f 4 (by decide))
     obtain ⟨g,t,p,a1,a2,a3,a4⟩:=J.k7
     subst a1
     refine jMa (d:=20) (q:=24) (y:=(e.worker,kk.1+(n:Int))) (by decide) rfl Q e4 (List.getElem?_set_self (by rw[G,List.length_append,List.length_set];omega)) a2 λI c3 w st A C=>?_
     rw[List.set_set]
     exact ⟨by simp only[go_sem,J.t1],by simp only[go_sem,J.t2],by simp only[go_sem,J.t3],by simp only[go_sem,J.t5],by simp only[go_sem,J.t6],λq=>by have z:=J.k0 (qg (by decide) q);simp only[go_sem,z],λq=>by have z:=J.k1 (qg (by decide) q);simp only[go_sem,z],λq=>by have z:=J.k2 (qg (by decide) q);simp only[go_sem,z],λq=>by have z:=J.k3 (qg (by decide) q);simp only[go_sem,z],λq=>by have z:=J.k4 (qg (by decide) q);simp only[go_sem,z],λq=>let ⟨n,z⟩:=J.k5 (qg (by decide) q);⟨n,by simp only[go_sem,z]⟩,λq=>let ⟨n,z⟩:=J.k6 (qg (by decide) q);⟨n,by simp only[go_sem,z]⟩,λq=>rfl,I,c3,_,rfl,A,(λq=>by simp at q),λ_=>⟨by rw[a3 U],w,st,by simp only[go_sem],λq=>absurd (J.k8 (qg (by decide) q)) (by rw[U];decide),C⟩⟩
   | 8,b=>
     injection b with b
     subst b
     simp only[List.getElem_toArray,List.getElem_cons_zero,List.getElem_cons_succ] at f⊢
     obtain ⟨g,t,p,a1,a2,a3,a4⟩:=J.k7
     subst a1
     obtain ⟨a5,w,st,Y,a7,a8⟩:=a4 (f 7 (by decide))
     refine vY (by decide) ?_
     simp only[go_sem,Y]
     exact ⟨by simp only[go_sem,J.t1],by simp only[go_sem,J.t2],by simp only[go_sem,J.t3],by simp only[go_sem,J.t5],by simp only[go_sem,J.t6],λq=>by have z:=J.k0 (qg (by decide) q);simp only[go_sem,z],λq=>by have z:=J.k1 (qg (by decide) q);simp only[go_sem,z],λq=>by have z:=J.k2 (qg (by decide) q);simp only[go_sem,z],λq=>by have z:=J.k3 (qg (by decide) q);simp only[go_sem,z],λq=>by have z:=J.k4 (qg (by decide) q);simp only[go_sem,z],λq=>let ⟨n,z⟩:=J.k5 (qg (by decide) q);⟨n,by simp only[go_sem,z]⟩,λq=>let ⟨n,z⟩:=J.k6 (qg (by decide) q);⟨n,by simp only[go_sem,z]⟩,λ_=>f 7 (by decide),g,t,p,rfl,a2,λq=>a3 (zWa (by decide) q),λq=>⟨a5,w,st,by simp only[go_sem,Y],λ_=>by simp only[go_sem],a8⟩⟩
   | 9,b=>
     injection b with b
     subst b
     simp only[List.getElem_toArray,List.getElem_cons_zero,List.getElem_cons_succ] at f⊢
     have Q:=J.k0 (f 0 (by decide))
     obtain ⟨n6,e6⟩:=J.k6 (f 6 (by decide))
     obtain ⟨g,t,p,a1,a2,a3,a4⟩:=J.k7
     subst a1
     obtain ⟨a5,w,st,Y,a7,a8⟩:=a4 (f 7 (by decide))
     have e8:=a7 (f 8 (by decide))
     refine jNa (d:=20) (q:=28) (x:=26) (st:=st) (by decide) rfl Q e8 e6 (List.getElem?_set_self (by rw[G,List.length_append,List.length_set];omega)) a2 a8 λI u A z5=>?_
     rw[List.set_set]
     exact ⟨by simp only[go_sem,J.t1],by simp only[go_sem,J.t2],by simp only[go_sem,J.t3],by simp only[go_sem,J.t5],by simp only[go_sem,J.t6],λq=>by have z:=J.k0 (qg (by decide) q);simp only[go_sem,z],λq=>by have z:=J.k1 (qg (by decide) q);simp only[go_sem,z],λq=>by have z:=J.k2 (qg (by decide) q);simp only[go_sem,z],λq=>by have z:=J.k3 (qg (by decide) q);simp only[go_sem,z],λq=>by have z:=J.k4 (qg (by decide) q);simp only[go_sem,z],λq=>let ⟨n,z⟩:=J.k5 (qg (by decide) q);⟨n,by simp only[go_sem,z]⟩,λq=>let ⟨n,z⟩:=J.k6 (qg (by decide) q);⟨n,by simp only[go_sem,z]⟩,λq=>J.k8 (qg (by decide) q),I,t,p,rfl,A,λq=>a3 (zWa (by decide) q),λq=>⟨a5,w,st,by simp only[go_sem,Y],λ_=>by simp only[go_sem,e8],z5⟩⟩
   | n+10,b=>cases b
  ·rintro S T h' D J
   obtain ⟨g,t,p,a1,a2,a3,a4⟩:=J.k7
   obtain ⟨a5,_⟩:=a4 (D 7 (by decide))
   subst a1 a5
   have R:H.set id (.raw l (.map g t) [] [])=h.set id (.raw l (.map g t) [] [])++[.box 73 (evC e)]:=by
    rw[G,List.set_append_left _ _ (by rw[List.length_set];exact E),List.set_set]
   have F:(List.range (n+1)).map (λn:Nat=>(e.worker,kk.1+(n:Int)))=(List.range n).map (λn:Nat=>(e.worker,kk.1+(n:Int)))++[(e.worker,kk.1+(n:Int))]:=by
    rw[List.range_succ,List.map_append];rfl
   simp only[go_sem,J.t6,β]
   refine ⟨cnt - (n+1),by omega,n+1,g,t,by omega,?_,R,by simp only[go_sem,J.t1],by simp only[go_sem,J.t2],by simp only[go_sem,J.t3],by simp only[go_sem,J.t5],(by show i64 _=i64 _;congr 1;omega),rfl⟩
   rw[F,List.foldl_append, <-P]
   exact a2
 ·have hge:¬ kk.1+(n:Int)<=kk.2:=by simpa using q
  have θ:n=cnt:=by omega
  subst θ
  simp only[go_sem]
  refine ⟨.tup [],rfl,.inr ⟨h.set id (.raw l (.map es' c') [] []),[.box 73 (evC e)],rfl,by rw[List.length_set],rfl,KeepLt.refl.set rfl rfl,rfl,es',c',by rw[N];exact K,rfl⟩⟩
end Go.Proofs.YtfmldcilgbbimaaGreat.Ax
namespace Go.Proofs.YtfmldcilgbbimaaGreat.Ax
open Go Go.Proofs Go.RowKit
set_option maxRecDepth 100000
theorem Qoa {z k:Int × Int} {ks:List (Int × Int)}:z∈ZA ks k↔z∈ks∨z=k:=by
 unfold ZA
 split
 ·rename_i h
  constructor
  ·exact .inl
  ·rintro (q | rfl)
   ·exact q
   ·exact h
 ·simp
theorem kwa {k:Int × Int} {ks:List (Int × Int)} (h:ks.Nodup):(ZA ks k).Nodup:=by
 unfold ZA
 split
 ·exact h
 ·rename_i e
  rw[List.nodup_append]
  exact ⟨h,by simp,λa d b c=>by simp at c;subst c;intro q;subst q;exact e d⟩
theorem YZ {z:Int × Int}:∀ {L ks:List (Int × Int)},z∈L.foldl ZA ks↔z∈ks∨z∈L
 | [],ks=>by simp
 | k::L,ks=>by rw[List.foldl_cons,YZ,Qoa,List.mem_cons,or_assoc]
theorem KO:∀ {L ks:List (Int × Int)},ks.Nodup->(L.foldl ZA ks).Nodup
 | [],_,h=>h
 | k::L,ks,h=>KO (L:=L) (kwa h)
structure Vis (es:Array MapEntry) (seen:Array Nat) (vs:List (Int × Int)):Prop where
 nodup:vs.Nodup
 iff:∀e∈es.toList,∀k,e.key=xo k->(k∈vs↔e.born∈seen)
 sub:∀k∈vs,∃e∈es.toList,e.key=xo k
theorem Xfa (es:Array MapEntry):Vis es #[] []:=⟨.nil,λ_ _ _ _=>by simp,λ_ h=>by cases h⟩
theorem WO {es:Array MapEntry} {seen:Array Nat} {e:MapEntry}:e∈(leftOf es seen).toList↔e∈es.toList/\e.born∉seen:=by
 unfold leftOf
 rw[Array.toList_filter,List.mem_filter]
 simp
theorem Qpa {es:Array MapEntry} {c:Nat} {ks:List (Int × Int)} (h:KM es c ks):∀ {a b:MapEntry},a∈es.toList->b∈es.toList->a.born=b.born->a=b:=by
 have key:∀(l:List MapEntry),(l.map (·.born)).Nodup->∀ {a b:MapEntry},a∈l->b∈l->a.born=b.born->a=b:=λl=>by
  induction l with
  | nil=>exact λ_ _ _ h=>by cases h
  | cons x l k=>
    intro g a b i j d
    rw[List.map_cons,List.nodup_cons] at g
    rcases List.mem_cons.1 i with f | f<;>rcases List.mem_cons.1 j with e | e
    ·rw[f,e]
    ·subst f;exact absurd (List.mem_map.2 ⟨b,e,d.symm⟩) g.1
    ·subst e;exact absurd (List.mem_map.2 ⟨a,f,d⟩) g.1
    ·exact k g.2 f e d
 exact λ{a b} i j d=>key _ h.born i j d
theorem Xga {es:Array MapEntry} {c:Nat} {ks:List (Int × Int)} (h:KM es c ks) (e:ks.Nodup):∀ {a b:MapEntry},a∈es.toList->b∈es.toList->a.key=b.key->a=b:=by
 have k:(es.toList.map (·.key)).Nodup:=by
  rw[h.keys]
  exact List.Pairwise.map _ (λa b d q=>d (Xq q)) e
 have key:∀(l:List MapEntry),(l.map (·.key)).Nodup->∀ {a b:MapEntry},a∈l->b∈l->a.key=b.key->a=b:=λl=>by
  induction l with
  | nil=>exact λ_ _ _ h=>by cases h
  | cons x l m=>
    intro e a b i j d
    rw[List.map_cons,List.nodup_cons] at e
    rcases List.mem_cons.1 i with g | g<;>rcases List.mem_cons.1 j with f | f
    ·rw[g,f]
    ·subst g;exact absurd (List.mem_map.2 ⟨b,f,d.symm⟩) e.1
    ·subst f;exact absurd (List.mem_map.2 ⟨a,g,d⟩) e.1
    ·exact m e.2 g f d
 exact λ{a b} i j d=>key _ k i j d
theorem Kk {es:Array MapEntry} {c:Nat} {ks:List (Int × Int)} (h:KM es c ks) {e:MapEntry} (a:e∈es.toList):∃k,e.key=xo k/\k∈ks:=by
 have:e.key∈ks.map xo:=by rw[<-h.keys];exact List.mem_map.2 ⟨e,a,rfl⟩
 obtain ⟨k,d,b⟩:=List.mem_map.1 this
 exact ⟨k,b.symm,d⟩
theorem Vis.more {es:Array MapEntry} {c:Nat} {ks vs:List (Int × Int)} {seen:Array Nat} (h:KM es c ks) (r:ks.Nodup) (v:Vis es seen vs) {e:MapEntry} (m:e∈(leftOf es seen).toList) {k:Int × Int} (i:e.key=xo k):Vis es (seen.push e.born) (vs++[k])/\(leftOf es (seen.push e.born)).size<(leftOf es seen).size:=by
 obtain ⟨g,o⟩:=WO.1 m
 have l:k∉vs:=λq=>o ((v.iff e g k i).1 q)
 refine ⟨⟨?_,λx j k' d=>?_,λz f=>?_⟩,?_⟩
 ·rw[List.nodup_append]
  exact ⟨v.nodup,by simp,λa p b n=>by simp at n;subst n;intro q;subst q;exact l p⟩
 ·rw[List.mem_append,List.mem_singleton,v.iff x j k' d,Array.mem_push]
  constructor
  ·rintro (q | q)
   ·exact .inl q
   ·subst q
    have:=Xga h r j g (d.trans i.symm)
    rw[this];exact .inr rfl
  ·rintro (q | q)
   ·exact .inl q
   ·have:=Qpa h j g q
    subst this
    exact .inr (Xq (d.symm.trans i))
 ·rcases List.mem_append.1 f with f | f
  ·exact v.sub z f
  ·rw[List.mem_singleton] at f
   subst f
   exact ⟨e,g,i⟩
 ·exact left_shrinks es seen e m
theorem Vis.all {es:Array MapEntry} {c:Nat} {ks vs:List (Int × Int)} {seen:Array Nat} (h:KM es c ks) (v:Vis es seen vs) (g:(leftOf es seen).size=0):∀z,z∈vs↔z∈ks:=λz=>by
 have b:∀e∈es.toList,e.born∈seen:=λe a=>by
  by_cases i:e.born∈seen
  ·exact i
  ·have:=WO.2 ⟨a,i⟩
   rw[<-Array.length_toList] at g
   rw[List.eq_nil_of_length_eq_zero g] at this
   cases this
 constructor
 ·intro q
  obtain ⟨e,a,d⟩:=v.sub z q
  obtain ⟨k,f,j⟩:=Kk h a
  rw[Xq (d.symm.trans f)]
  exact j
 ·intro q
  have:xo z∈es.toList.map (·.key):=by rw[h.keys];exact List.mem_map.2 ⟨z,q,rfl⟩
  obtain ⟨e,a,d⟩:=List.mem_map.1 this
  exact (v.iff e a z d).2 (b e a)
theorem zXa {α:Type} (l M:List α) (k:Nat) (o:α):(l++M).set (l.length+k) o=l++M.set k o:=by
 rw[List.set_append_right _ _ (by omega),Nat.add_sub_cancel_left]
theorem OwnS.set_raw {h0 h:List Ob} {ty e:Nat} {x:AV} {rows:List (List AV)} (k:OwnS h0 h ty e x rows) {i l:Nat} {ob:Obj} {ks us} (a:h[i]? =some (.raw l ob ks us)) (o:Ob):OwnS h0 (h.set i o) ty e x rows:=by
 rcases k with k | ⟨id,st,k1,k2,k3⟩
 ·exact .inl k
 ·refine .inr ⟨id,st,k1,k2,?_⟩
  have:i≠id:=λq=>by rw[q,k3] at a;cases a
  rw[List.getElem?_set_ne this]
  exact k3
abbrev HT (h:List Ob) (s:Setup) (a:SA) (q:Fx) (l:Nat) (es:Array MapEntry) (c:Nat):List Ob:=h++[.box 30 (zr s a),.box 75 (fxC q),.raw l (.map es c) [] [],.box 155 [.v (.map (some l))]]
theorem Xu {α:Type} [DecidableEq α]:∀ {a b:List α},a.Nodup->(∀x∈a,x∈b)->a.length<=b.length
 | [],_,_,_=>Nat.zero_le _
 | x::a,b,h,e=>by
   obtain ⟨g,f⟩:=List.nodup_cons.1 h
   have c:=e x (.head _)
   have:=Xu (a:=a) (b:=b.erase x) f λy d=>(List.mem_erase_of_ne (λq=>by subst q;exact g d)).2 (e y (.tail _ d))
   rw[List.length_erase_of_mem c] at this
   have i:=List.length_pos_of_mem c
   rw[List.length_cons]
   omega
theorem Y0 (s:Setup) (e:Ev):(wZ s e).length<=53:=by
 have a:=Zy (wr (zO e.at_ 32054399 - wr (zO s.unit 604800+zO s.cap 604800)))
 have b:=Zy (wr (zO e.at_ 32054399+wr (zO s.unit 604800+zO s.cap 604800)))
 unfold wZ QA wW
 rw[List.length_map,List.length_map,List.length_range]
 simp only
 omega
theorem Y4 (s:Setup) (l:List Ev) (x:Fx):(Jf s l x).length<=106:=by
 have a:=Y0 s (ZI l x.ev.id).1
 have b:=Y0 s x.ev
 unfold Jf
 rw[List.length_append]
 split<;>split<;>simp<;>omega
abbrev HU (h:List Ob) (s:Setup) (a:SA) (q:Fx) (l:Nat) (es:Array MapEntry) (c:Nat) (e:Ev):List Ob:=h++[.box 30 (zr s a),.box 75 (fxC q),.raw l (.map es c) [] [],.box 155 [.v (.map (some l))],.box 73 (evC e)]
theorem w1a (h:List Ob) (s:Setup) (a:SA) (k:SIn h s a) (x:AV) (l:List Ev) (q:Fx) (hx:SlOf h x 11 (l.map evC)) (hl:l.length<1048576):
  ACalls Tryz.prog 35 [z6 s a,x,.ag (fxC q)] h λr h'=>∃L,h'=h++L/\NoRes L/\New h 2 r ((jg s l q).map y7) L:=by
 have hex:∃r h',(∃L,h'=h++L/\NoRes L/\New h 2 r ((jg s l q).map y7) L)/\ResK h h':=
  ⟨.sl 2 _,_,⟨[],rfl,qh,λ_ _=>⟨rfl,λ_=>rfl⟩⟩,zR⟩
 refine jm (N:=50) (rs:=[.tmp 6]) (fn:=Tryz.f35) rfl rfl rfl rfl (Nat.le_of_ble_eq_true rfl) rfl (hex) λB=>?_
 refine qc (by decide) ?_
 simp only[go_sem,k.ones]
 refine j5 (qc (by decide) ?_)
 simp only[go_sem]
 refine j5 (kqa (id:=h.length+2) (j:=h.length+3) (by rw[zm (k:=2) rfl];rfl) (by rw[zm (k:=3) rfl];rfl) λm k0=>?_)
 rw[zXa,zXa]
 have hH:∀es c,h++[Ob.box 30 (zr s a),.box 75 (fxC q),.raw m (.map es c) [] [],.box 155 [.v (.map (some m))]]=HT h s a q m es c:=λ_ _=>rfl
 simp only[List.set_cons_zero,List.set_cons_succ]
 rw[hH]
 have δ:(HT h s a q m #[] k0)[h.length+1]? =some (.box 75 (fxC q)):=by rw[zm (k:=1) rfl];rfl
 have G:∀es c,(HT h s a q m es c).length=h.length+4:=λes c=>by simp
 have g0:∀es c e,(HU h s a q m es c e)[h.length]? =some (.box 30 (zr s a)):=λes c M=>by rw[zo rfl];rfl
 have g1:∀es c e,(HU h s a q m es c e)[h.length+1]? =some (.box 75 (fxC q)):=λes c M=>by rw[zm (k:=1) rfl];rfl
 have g2:∀es c e,(HU h s a q m es c e)[h.length+2]? =some (.raw m (.map es c) [] []):=λes c M=>by rw[zm (k:=2) rfl];rfl
 have g3:∀es c e,(HU h s a q m es c e)[h.length+3]? =some (.box 155 [.v (.map (some m))]):=λes c M=>by rw[zm (k:=3) rfl];rfl
 have g4:∀es c e,(HU h s a q m es c e)[h.length+4]? =some (.box 73 (evC e)):=λes c M=>by rw[zm (k:=4) rfl];rfl
 have t:∀es c es' c' e,(HU h s a q m es c e).set (h.length+2) (.raw m (.map es' c') [] [])=HU h s a q m es' c' e:=λes c es' c' M=>by
  rw[zXa]
  rfl
 obtain ⟨d,A⟩:∃d,d=ZI l q.ev.id:=⟨_,rfl⟩
 clear hH
 refine qc (by decide) ?_
 simp only[go_sem]
 have W:∀es c,SlOf (HT h s a q m es c) x 11 (l.map evC):=λes c=>hx.app _
 have kM:∀es c e,SIn (HU h s a q m es c e) s a:=λes c e=>k.app _
 refine j5 (vL (λT h'=>∃es c,h'=HU h s a q m es c d.1/\KM es c ((if d.2 && qV q then wZ s d.1 else []).foldl ZA [])/\T 5= .ptr (h.length+1) 0/\T 7= .ptr (h.length+3) 0/\T 8= .fn (.func 89) [] [.ptr h.length 0,.ptr (h.length+3) 0]) (by decide) ?_ ?_)
 ·simp only[go_sem,δ]
  refine zc (WMa _ x l q.ev.id (W _ _) hl) ?_
  rintro _ h1 ⟨rfl,rfl⟩
  rw[<-A]
  simp only[go_sem,G]
  cases R:d.2
  ·simp only[go_sem,R,zJ]
   exact ⟨_,_,rfl,koa _⟩
  ·simp only[go_sem,R,zJ,g1]
   refine zc (Z4a q _) ?_
   rintro _ h1 ⟨rfl,rfl⟩
   simp only[go_sem]
   cases q2:qV q
   ·simp only[go_sem,q2]
    exact ⟨_,_,rfl,koa _⟩
   ·simp only[go_sem,q2,g4]
    refine zc (vta _ s a (kM _ _ _) h.length (h.length+3) (h.length+2) m (g0 _ _ _) (g3 _ _ _) _ _ [] (g2 _ _ _) (koa _) d.1) ?_
    rintro _ h2 ⟨rfl,es',c',V,z2⟩
    rw[t] at z2
    subst z2
    simp only[go_sem]
    exact ⟨es',c',rfl,V⟩
 rintro T h' ⟨es1,c1,rfl,V,t5,t7,t8⟩
 refine vL (λT h'=>∃es c,h'=HU h s a q m es c d.1/\KM es c ((Jf s l q).foldl ZA [])/\T 7= .ptr (h.length+3) 0) (by decide) ?_ ?_
 ·simp only[go_sem,t5,g1]
  refine zc (XXa q _) ?_
  rintro _ h1 ⟨rfl,rfl⟩
  simp only[go_sem]
  cases R:jC q
  ·simp only[go_sem,R,zJ]
   refine ⟨es1,c1,rfl,?_,by simp only[go_sem,t7]⟩
   unfold Jf
   rw[<-A,R]
   simpa using V
  ·simp only[go_sem,R,zJ,t8,t5,g1]
   refine zc (vta _ s a (kM _ _ _) h.length (h.length+3) (h.length+2) m (g0 _ _ _) (g3 _ _ _) _ _ _ (g2 _ _ _) V q.ev) ?_
   rintro _ h2 ⟨rfl,es',c',z2,z3⟩
   rw[t] at z3
   subst z3
   simp only[go_sem]
   refine ⟨es',c',rfl,?_,by simp only[go_sem,t7]⟩
   unfold Jf
   rw[<-A,R,List.foldl_append]
   simpa using z2
 rintro T h' ⟨es,c,rfl,Q,t7⟩
 clear V t5 t8
 obtain ⟨ks,O⟩:∃ks,ks=(Jf s l q).foldl ZA []:=⟨_,rfl⟩
 rw[<-O] at Q
 have φ:ks.Nodup:=by rw[O];exact KO .nil
 have S:∀z,z∈ks↔z∈jg s l q:=λz=>by
  unfold jg
  rw[QB,O,YZ]
  simp
 have Z:∀vs:List (Int × Int),vs.Nodup->(∀z∈vs,z∈ks)->vs.length<=106:=λvs h1 h2=>by
  have h3:=Xu (b:=Jf s l q) h1 λz C=>by
   have:=(S z).1 (h2 z C)
   exact QB.1 this
  have h4:=Y4 s l q
  omega
 refine qc (by decide) ?_
 simp only[go_sem]
 obtain ⟨H,D⟩:∃H,H=HU h s a q m es c d.1:=⟨_,rfl⟩
 have E:=g2 es c d.1
 have P:=g3 es c d.1
 have I:Pre h H:=⟨_,D,zg rfl (zg rfl (zg rfl (zg rfl (zi rfl))))⟩
 have γ:H.length=h.length+5:=by rw[D];simp
 rw[<-D] at E P⊢
 clear D g0 g1 g2 g3 g4 t W kM δ G
 refine j5 (yj (yj (WL [_,_] [] rfl (by decide) ⟨rfl,vY (by decide) ?_⟩)))
 simp only[go_sem,t7,P]
 refine ⟨rfl,kra (by decide) (id:=h.length+2) (l:=m) (es:=es) (c:=c) rfl (by simp only[go_sem]) E λr=>?_⟩
 simp only[go_sem]
 obtain ⟨T1,F⟩:∃T1:Env,T1=upd (upd (upd T 11 (.v (.slice none 0 0))) 37 (.v (.map (some m)))) 38 (.v (.pointer (some ⟨r,0,none⟩))):=⟨_,rfl⟩
 have f:T1 11= .v (.slice none 0 0):=by rw[F];simp only[go_sem]
 have g:T1 38= .v (.pointer (some ⟨r,0,none⟩)):=by rw[F];simp only[go_sem]
 have w:Pre h (H++[.raw r (.mapIter (some m) c #[] c) [] []]):=I.app (zi rfl)
 have gm:(H++[.raw r (.mapIter (some m) c #[] c) [] []])[h.length+2]? =some (.raw m (.map es c) [] []):=zb E
 have gi:(H++[.raw r (.mapIter (some m) c #[] c) [] []])[h.length+5]? =some (.raw r (.mapIter (some m) c #[] c) [] []):=by rw[<-γ,zo rfl];rfl
 rw[<-F]
 clear F
 obtain ⟨H1,ι⟩:∃H1,H1=H++[.raw r (.mapIter (some m) c #[] c) [] []]:=⟨_,rfl⟩
 rw[<-ι] at w gm gi⊢
 clear ι γ E P I t7
 refine XE (qoa (λn T h'=>∃(seen:Array Nat) (vs:List (Int × Int)) (y:AV),Pre h h'/\h'[h.length+2]? =some (.raw m (.map es c) [] [])/\h'[h.length+5]? =some (.raw r (.mapIter (some m) c seen c) [] [])/\OwnS h h' 89 2 y (vs.map y7)/\Vis es seen vs/\T 11=y/\T 38= .v (.pointer (some ⟨r,0,none⟩))/\n=(leftOf es seen).size) (leftOf es #[]).size
  ⟨#[],[],_,w,gm,gi,.inl ⟨rfl,rfl⟩,Xfa es,f,g,rfl⟩ ?_)
 rintro n T2 h' ⟨seen,vs,y,k1,k2,k3,k4,k5,f,g,rfl⟩
 refine yj (WL [_] [_] rfl (by decide) ⟨rfl,wZa (by decide) rfl g k2 k3 Q.lt (Nat.le_refl _) (λC=>?_) (λe he=>?_)⟩)
 ·simp only[go_sem]
  refine qc (by decide) ?_
  simp only[go_sem]
  have p:=k5.all Q C
  have χ:=Z vs k5.nodup λz C=>(p z).1 C
  refine qc (by decide) ?_
  rcases k4 with ⟨rfl,u⟩ | ⟨id,st,u1,rfl,U⟩
  ·simp only[go_sem,f]
   refine zc (Xea _ _) ?_
   rintro _ h3 ⟨rfl,rfl⟩
   simp only[go_sem]
   refine j5 (zL _ (by decide) ?_)
   simp only[go_sem,f]
   have K:vs=[]:=List.map_eq_nil_iff.1 u
   have ω:jg s l q=[]:=by
    rw[List.eq_nil_iff_forall_not_mem]
    intro z ψ
    have:=(p z).2 ((S z).2 ψ)
    rw[K] at this
    cases this
   obtain ⟨L,hL,hN⟩:=k1
   exact ⟨.v (.slice none 0 0),by simp only[go_sem],.inl ⟨L,hL,hN,by rw[ω];exact λ_ _=>⟨rfl,λq=>absurd rfl q⟩⟩⟩
  ·simp only[go_sem,f]
   refine zc (Vka _ id st vs (jg s l q) U (by omega) k5.nodup (WF _) λz=>(p z).trans (S z)) ?_
   rintro _ h3 ⟨rfl,rfl⟩
   simp only[go_sem]
   refine j5 (zL _ (by decide) ?_)
   simp only[go_sem,f]
   have k1':=k1.set (i:=id) (o:= .row 89 2 ((jg s l q).map y7) st) u1 rfl
   have own:OwnS h (h'.set id (.row 89 2 ((jg s l q).map y7) st)) 89 2 (.tl id st) ((jg s l q).map y7):= .inr ⟨id,st,u1,rfl,zh U⟩
   obtain ⟨L,hL,hN⟩:=k1'
   rw[hL] at own⊢
   exact ⟨_,by simp only[go_sem],.inl ⟨L,rfl,hN,own.new (Nat.le_refl _)⟩⟩
 ·obtain ⟨θ,_⟩:=WO.1 he
  obtain ⟨ky,α,hkm2⟩:=Kk Q θ
  obtain ⟨v2,v3⟩:=k5.more Q φ he α
  have χ:=Z vs k5.nodup λz C=>by
   obtain ⟨x,hx,hk⟩:=k5.sub z C
   obtain ⟨k',hk',hm'⟩:=Kk Q hx
   rw[Xq (hk.symm.trans hk')]
   exact hm'
  have j1:=k1.set (i:=h.length+5) (o:= .raw r (.mapIter (some m) c (seen.push e.born) c) [] []) (by omega) rfl
  have j2:(h'.set (h.length+5) (.raw r (.mapIter (some m) c (seen.push e.born) c) [] []))[h.length+2]? =some (.raw m (.map es c) [] []):=by rw[List.getElem?_set_ne (by omega)];exact k2
  have Y:(h'.set (h.length+5) (.raw r (.mapIter (some m) c (seen.push e.born) c) [] []))[h.length+5]? =some (.raw r (.mapIter (some m) c (seen.push e.born) c) [] []):=zh k3
  have j4:=k4.set_raw k3 (.raw r (.mapIter (some m) c (seen.push e.born) c) [] [])
  obtain ⟨J,hJ⟩:∃J,J=h'.set (h.length+5) (.raw r (.mapIter (some m) c (seen.push e.born) c) [] []):=⟨_,rfl⟩
  rw[<-hJ] at j1 j2 Y j4⊢
  clear hJ k1 k2 k3 k4
  simp only[go_sem]
  refine qc (by decide) ?_
  simp only[go_sem]
  refine j5 (XE (yj (WL [_] [_,_,_] rfl (by decide) ⟨rfl,ksa (by decide) rfl (by simp only[go_sem,g]) j2 Y θ Q.born ?_⟩)))
  rw[α]
  simp only[xo,ofV]
  simp only[go_sem]
  refine zL _ (by decide) ?_
  have hJl:=j1.len
  rcases j4 with ⟨rfl,u⟩ | ⟨id,st,u1,rfl,U⟩
  ·simp only[go_sem,f]
   have K:vs=[]:=List.map_eq_nil_iff.1 u
   subst K
   refine ⟨_,v3,_,_,_,j1.app (zg rfl (zg rfl (zi rfl))),zb j2,zb Y,.inr ⟨J.length+2,0,by omega,rfl,?_⟩,v2,rfl,g,rfl⟩
   rw[zm (k:=2) rfl]
   rfl
  ·have X:(vs.length+1)*17<=140737488355328:=by omega
   have β:∀M,(J++M)[id]? =some (.row 89 2 (vs.map y7) st):=λM=>zb U
   have hidl:=(List.getElem?_eq_some_iff.1 U).1
   simp only[go_sem,f,β,List.length_map,X]
   have j1':=(j1.app (M:=[.box 89 (y7 ky),.row 89 2 [y7 ky] 0]) (zg rfl (zi rfl))).set (i:=id) (o:= .row 89 2 (vs.map y7++[y7 ky]) (st+1)) u1 rfl
   have ζ:∀ {z:Nat} {l ob ks us},J[z]? =some (.raw l ob ks us)->id≠z:=λC q=>by rw[<-q,U] at C;cases C
   refine ⟨_,v3,_,_,_,j1',?_,?_,.inr ⟨id,st+1,u1,rfl,?_⟩,v2,rfl,g,rfl⟩
   ·rw[List.getElem?_set_ne (ζ j2)];exact zb j2
   ·rw[List.getElem?_set_ne (ζ Y)];exact zb Y
   ·rw[List.map_append]
    exact zh (β _)
theorem Qqa (h:List Ob) (s:Setup) (a:SA) (k:SIn h s a) (x:AV) (l:List Ev) (q:Fx) (c:SlOf h x 11 (l.map evC)) (b:l.length<1048576):
  ACalls Tryz.prog 35 [z6 s a,x,.ag (fxC q)] h λr h'=>r= .sl 2 ((jg s l q).map y7)/\h'=h:=
 qK (by decide) (Qma _) (w1a h s a k x l q c b)
end Go.Proofs.YtfmldcilgbbimaaGreat.Ax
namespace Go.Proofs.YtfmldcilgbbimaaGreat.Ax
open Go Go.Proofs
set_option maxRecDepth 100000
def WP (a:List Int) (e:Int) (k:Int × Int):Int:=qH e (!qB a k.2) 211
theorem Y5 (a:List Int):∀(L:List (Int × Int)) (e:Int),L.foldl (WP a) e=qH e (!L.any λk=>qB a k.2) 211
 | [],e=>by simp[qH]
 | k::L,e=>by
   rw[List.foldl_cons,Y5 a L,List.any_cons]
   unfold WP qH
   by_cases h:e=0
   ·subst h
    cases qB a k.2<;>cases (L.any λk=>qB a k.2)<;>simp
   ·have:(e==0)=false:=by simpa using h
    simp[this]
theorem kxa (e d:Int):qH e true d=e:=by simp[qH]
theorem Xha {l:List (Int × Int)} {i:Nat} (h:i<l.length):(l.map y7)[i]? =some [i64 (l[i]).1,i64 (l[i]).2]:=by rw[List.getElem?_map,List.getElem?_eq_getElem h];rfl
theorem jQa (s:Setup) (l:List Ev) (x:Fx):(jg s l x).length<=106:=by
 have c:(jg s l x).Nodup:=(WF _).imp λ{a b} h q=>by subst q;rw[xn] at h;omega
 have e:=Xu (b:=Jf s l x) c λz d=>QB.1 d
 have:=Y4 s l x
 omega
section
variable {h:List Ob} {d:Nat} {s:Setup} {a:SA} {x c:AV} {rows segs bytes:AV} {q:Cm}
def Qra (s:Setup) (b:Bk) (f:Fx) (x:AV):AV:=if JL s b f==0 then .sl 11 ((qq s b.evs f).1.map evC) else x
theorem W3a (f:h[d]? =some (.box 145 (zK s a x c 0 rows segs bytes q))) (k:SIn h s a) (b:Bk) (hx:SlOf h x 11 (b.evs.map evC)) (hl:b.evs.length<262144) (hc:SlOf h c 1 (b.shut.map zz)) (X:b.shut.length<1048576) (δ:AV.one x=true):
  ACalls Tryz.prog 73 [.ptr d 0] h λr h'=>r= .tup []/\∃L,h'=h.set d (.box 145 (zK s a (Qra s b q.fx x) c (JL s b q.fx) rows segs bytes q))++L/\NoRes L:=by
 refine zf Tryz.f73 [] 71 rfl rfl rfl rfl rfl rfl (by decide) (⟨_,_,⟨rfl,[],rfl,qh⟩,by rw[List.append_nil];exact zC f rfl⟩) λB=>?_
 simp only[go_sem]
 refine zn rfl [] 0 [(0,0,[]),(1,0,[]),(2,0,[]),(3,0,[]),(5,0,[]),(6,0,[]),(7,0,[]),(8,0,[]),(10,0,[]),(11,0,[]),(12,0,[]),(13,0,[]),(4,0,[]),(9,0,[]),(14,0,[]),(15,0,[]),(16,0,[]),(17,0,[]),(18,0,[]),(19,0,[]),(20,0,[])] rfl (by decide) (by decide) ?_
 simp only[go_sem,f,k.ones]
 refine zc (K9a h s a k x b.evs q.fx hx (by omega)) ?_
 rintro _ h1 ⟨rfl,e1⟩
 rw[e1]
 obtain ⟨A,I⟩:∃A,A=qq s b.evs q.fx:=⟨_,rfl⟩
 rw[<-I]
 simp only[go_sem,f]
 refine zc (Qy f (A.2==0) A.2) ?_
 rintro _ h2 ⟨rfl,rfl⟩
 obtain ⟨F,C⟩:∃F,F=qH 0 (A.2==0) A.2:=⟨_,rfl⟩
 rw[<-C]
 have V:=zh (b:=Ob.box 145 (zK s a x c F rows segs bytes q)) f
 simp only[go_sem,List.length_map]
 refine zc (Qy V (decide ((A.1.length:Int)<=200)) 210) ?_
 rintro _ h3 ⟨rfl,rfl⟩
 rw[List.set_set]
 obtain ⟨j,y⟩:∃j,j=qH F (decide ((A.1.length:Int)<=200)) 210:=⟨_,rfl⟩
 rw[<-y]
 have U:=zh (b:=Ob.box 145 (zK s a x c j rows segs bytes q)) f
 have Y:=hx.keep (.setB (o:= .box 145 (zK s a x c j rows segs bytes q)) f)
 have k2:=k.keep (.setB (o:= .box 145 (zK s a x c j rows segs bytes q)) f)
 simp only[go_sem]
 refine zn rfl [] 0 [(0,0,[]),(1,0,[]),(2,0,[]),(3,0,[]),(5,0,[]),(6,0,[]),(7,0,[]),(8,0,[]),(10,0,[]),(11,0,[]),(12,0,[]),(13,0,[]),(17,0,[]),(4,0,[]),(9,0,[]),(14,0,[]),(15,0,[]),(16,0,[])] rfl (by decide) (by decide) ?_
 simp only[go_sem,U,k.ones]
 refine zc (Qqa _ s a k2 x b.evs q.fx Y (by omega)) ?_
 rintro _ h4 ⟨rfl,e4⟩
 rw[e4]
 obtain ⟨W,hW⟩:∃W,W=jg s b.evs q.fx:=⟨_,rfl⟩
 have Z:=jQa s b.evs q.fx
 rw[<-hW] at Z⊢
 simp only[go_sem,List.length_map]
 have O:∀e M,SlOf (h.set d (.box 145 (zK s a x c e rows segs bytes q))++M) c 1 (b.shut.map zz):=λe M=>(hc.keep (.setB f)).app _
 refine zj (by decide) (λm T h'=>∃(i:Nat) (M:List Ob),i<=W.length/\h'=h.set d (.box 145 (zK s a x c ((W.take i).foldl (WP b.shut) j) rows segs bytes q))++M/\NoRes M/\T 0= .ptr d 0/\T 2= .sl 11 (A.1.map evC)/\T 50= .sl 2 (W.map y7)/\T 51=i64 W.length/\T 52=i64 i/\m=W.length - i) W.length
  ⟨0,[],by omega,by rw[List.append_nil];rfl,qh,by simp only[go_sem],by simp only[go_sem],by simp only[go_sem],by (simp only[go_sem]<;>rfl),by (simp only[go_sem]<;>rfl),rfl⟩ ?_
 rintro m T h' ⟨i,M,hi,rfl,G,t0,t2,t50,t51,p,rfl⟩
 simp only[go_sem,t51,p]
 refine ways (λe=>?_) (λe=>?_)
 ·have v:=dlt e
  have n:=Xha v
  have S:(i:Int)<W.length:=by omega
  have t:(W.take (i+1)).foldl (WP b.shut) j=WP b.shut ((W.take i).foldl (WP b.shut) j) W[i]:=by rw[<-List.take_append_getElem v,List.foldl_append];rfl
  obtain ⟨z,hz⟩:∃z,z=W[i]:=⟨_,rfl⟩
  rw[<-hz] at n t
  obtain ⟨E,K⟩:∃E,E=(W.take i).foldl (WP b.shut) j:=⟨_,rfl⟩
  rw[<-K] at t⊢
  obtain ⟨H,w⟩:∃H,H=h.set d (.box 145 (zK s a x c E rows segs bytes q))++M:=⟨_,rfl⟩
  have Q:H[d]? =some (.box 145 (zK s a x c E rows segs bytes q)):=by rw[w];exact zb (zh f)
  have g:∀M,(H++M)[d]? =some (.box 145 (zK s a x c E rows segs bytes q)):=λM=>zb Q
  have P:SlOf H c 1 (b.shut.map zz):=by rw[w];exact O E M
  have l:d<(h.set d (.box 145 (zK s a x c E rows segs bytes q))).length:=by rw[List.length_set];exact (List.getElem?_eq_some_iff.1 f).1
  have D:∀e N,(H++N).set d (.box 145 (zK s a x c e rows segs bytes q))=h.set d (.box 145 (zK s a x c e rows segs bytes q))++(M++N):=λe N=>by
   rw[w,List.append_assoc,List.set_append_left _ _ l,List.set_set]
  rw[<-w]
  clear w
  simp only[go_sem,t0,t50,p,n,S,List.length_map,Int.toNat_natCast,Int.natCast_nonneg]
  refine zc (K7 (g _) b.shut (P.app _) X z.2) ?_
  rintro _ h6 ⟨rfl,e6⟩
  rw[e6]
  simp only[go_sem]
  refine zc (Qy (g _) (!(b.shut.any (z.2== ·))) 211) ?_
  rintro _ h7 ⟨rfl,rfl⟩
  rw[D]
  simp only[go_sem,p]
  refine ⟨W.length - (i+1),by omega,i+1,M++[.box 89 (y7 z)],by omega,?_,?_,t0,t2,t50,t51,zx (by omega) rfl,rfl⟩
  ·rw[t]
   rfl
  ·intro o u
   rcases List.mem_append.1 u with u | u
   ·exact G o u
   ·exact zi rfl o u
 ·have μ:=qU e
  have R:i=W.length:=by omega
  subst R
  rw[List.take_length,Y5]
  have J:qH j (!W.any λk=>qB b.shut k.2) 211=JL s b q.fx:=by unfold JL;rw[y,C,I,hW]
  rw[J]
  obtain ⟨E,K⟩:∃E,E=JL s b q.fx:=⟨_,rfl⟩
  have l:d<(h.set d (.box 145 (zK s a x c E rows segs bytes q))).length:=by rw[List.length_set];exact (List.getElem?_eq_some_iff.1 f).1
  have g:∀M,(h.set d (.box 145 (zK s a x c E rows segs bytes q))++M)[d]? =some (.box 145 (zK s a x c E rows segs bytes q)):=λM=>zb (zh f)
  unfold Qra
  rw[<-K]
  simp only[go_sem,t0]
  refine zc (Qy (g M) true 0) ?_
  rintro _ h7 ⟨rfl,rfl⟩
  rw[kxa,List.set_append_left _ _ l,List.set_set]
  cases q1:E==0
  ·simp only[go_sem,q1]
   exact ⟨_,rfl,.inl ⟨rfl,M,rfl,G⟩⟩
  ·simp only[go_sem,q1,t0,t2,g]
   rw[List.set_append_left _ _ l,List.set_set]
   exact ⟨_,rfl,.inl ⟨rfl,M,by rw[I],G⟩⟩
abbrev Xia (q:Cm):Cm:=⟨q.kind,⟨1,q.fx.ev⟩,q.worker,q.week,q.last⟩
theorem Xja (e:h[d]? =some (.box 145 (zK s a x c 0 rows segs bytes q))) (k:SIn h s a) (b:Bk) (j:SlOf h x 11 (b.evs.map evC)) (l:b.evs.length<262144) (m:SlOf h c 1 (b.shut.map zz)) (i:b.shut.length<1048576) (f:AV.one x=true):
  ACalls Tryz.prog 72 [.ptr d 0] h λr h'=>r= .tup []/\∃L,h'=h.set d (.box 145 (zK s a (Qra s b ⟨1,q.fx.ev⟩ x) c (JL s b ⟨1,q.fx.ev⟩) rows segs bytes (Xia q)))++L/\NoRes L:=by
 refine zf Tryz.f72 [] 9 rfl rfl rfl rfl rfl rfl (by decide) (⟨_,_,⟨rfl,[],rfl,qh⟩,by rw[List.append_nil];exact zC e rfl⟩) λB=>?_
 simp only[go_sem,e]
 have g:=zh (b:=Ob.box 145 (zK s a x c 0 rows segs bytes (Xia q))) e
 refine zc (W3a (q:=Xia q) g (k.keep (.setB e)) b (j.keep (.setB e)) l (m.keep (.setB e)) i f) ?_
 rintro _ p ⟨rfl,L,o,n⟩
 rw[o,List.set_set]
 simp only[go_sem]
 exact ⟨_,rfl,.inl ⟨rfl,L,rfl,n⟩⟩
end
end Go.Proofs.YtfmldcilgbbimaaGreat.Ax
