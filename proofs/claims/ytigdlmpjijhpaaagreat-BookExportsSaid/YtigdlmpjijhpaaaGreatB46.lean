import Derived.Test.YtigdlmpjijhpaaaGreatBA
import Derived.Test.YtigdlmpjijhpaaaGreatB45
import Derived.Test.YtigdlmpjijhpaaaGreatB38
import Derived.Test.YtigdlmpjijhpaaaGreatB40
import Derived.Test.YtigdlmpjijhpaaaGreatB41
import Derived.Test.YtigdlmpjijhpaaaGreatB31
import Derived.Test.YtigdlmpjijhpaaaGreatB21
import Derived.Test.YtigdlmpjijhpaaaGreatB44
import Derived.Test.YtigdlmpjijhpaaaGreatB23
import Derived.OpenShut
import Derived.Test.YtigdlmpjijhpaaaGreatB39
set_option linter.all false
namespace Go.Proofs.YtigdlmpjijhpaaaGreat.Ax
open Go Go.Proofs
set_option maxRecDepth 100000
abbrev we(y:AV):Ob:= .box 116 [y,bl false]
def yZ(H:List Ob)(p:Nat × Nat)(n:Int):List Ob:=match H[p.1]? with
 | some (.box ty cs)=>H.set p.1 (.box ty (cs.set p.2 (i64 n)))
 | _=>H
def Vd(i:Nat)(H:List Ob)(p:Nat × Nat)(n:Int)(r:List Int):List Ob:=(yZ H p n).set i (we (.sl 1 (r.map qX)))
def Ve(i:Nat):List (Nat × Nat)->List Int->List Ob->Option (List Int × List Ob)
 | [],b,H=>some (b,H)
 | p::a,b,H=>match tkI b with
   | none=>none
   | some (n,r)=>Ve i a r (Vd i H p n r)
structure Spot (H:List Ob) (i:Nat) (p:Nat × Nat):Prop where
 ne:p.1≠i
 at_:∃ty cs,H[p.1]? =some (.box ty cs)/\p.2<cs.length
def FrN(i:Nat)(a:List (Nat × Nat))(h h':List Ob):Prop:=∀(j:Nat) (o:Ob),j≠i->(∀p∈a,p.1≠j)->h[j]? =some o->h'[j]? =some o
abbrev Kk:PanicEntry:={ v:= .iface 113 (.agg #[]),recovered:=false }
theorem vh{H:List Ob}{p:Nat × Nat}{ty:TypeId}{cs:List AV}{n:Int}(h:H[p.1]? =some (.box ty cs)):yZ H p n=H.set p.1 (.box ty (cs.set p.2 (i64 n))):=by
 unfold yZ
 rw[h]
theorem Spot.step{H:List Ob}{i:Nat}{p q:Nat × Nat}{n:Int}{r:List Int}(d:Spot H i q)(f:Spot H i p):Spot (Vd i H p n r) i q:=by
 obtain⟨ne,ty,cs,b,c⟩:=d
 obtain⟨j,g,cs',a,h⟩:=f
 refine⟨ne,?_⟩
 unfold Vd
 rw[vh a,zc (λe=>ne e.symm)]
 by_cases e:p.1=q.1
 ·rw[e] at a⊢
  rw[b] at a
  injection a with a
  injection a with e1 e2
  subst e1 e2
  exact⟨ty,_,zq b,by rw[zz];exact c⟩
 ·exact⟨ty,cs,by rw[zc e];exact b,c⟩
theorem FrN.step{H:List Ob}{i:Nat}{a:List (Nat × Nat)}{p:Nat × Nat}{h:List Ob}{n:Int}{r:List Int}(k:FrN i a h H)(l:p∈a)(d:Spot H i p):FrN i a h (Vd i H p n r):=λj o c b f=>by
 obtain⟨_,ty,cs,g,_⟩:=d
 unfold Vd
 rw[vh g,zc (λe=>c e.symm),zc (b p l)]
 exact k j o c b f
theorem RowsK.trans{a b c:List Ob}(k:RowsK a b)(l:RowsK b c):RowsK a c:=λid ty e xs st q=>l _ _ _ _ _ (k _ _ _ _ _ q)
theorem W0:∀ {cs:List AV} {o:Nat} {x:AV},o<cs.length->lay cs o [x]=some (cs.set o x)
 | c::cs,0,x,_=>by cases cs<;>rfl
 | c::cs,o+1,x,h=>by
   have:=W0 (cs:=cs) (o:=o) (x:=x) (by simpa using h)
   simp only[lay,this]
   rfl
set_option maxHeartbeats 4000000 in
theorem Kja(h:List Ob)(i:Nat)(y z:AV)(b:List Int)(a:List (Nat × Nat))(hi:h[i]? =some (we y))(M:SlOf h y 1 (b.map qX))(K:By b)(O:b.length<1099511627776)(w:SlOf h z 1 (a.map λp=>[.ptr p.1 p.2]))(N:∀p∈a,Spot h i p)(Z:a.length<1048576):
  PCalls Tryz.prog 50 [.ptr i 0,z] h (λr h'=>r= .tup []/\∃d,Ve i a b h=some (d,h')/\By d) (λch h'=>ch=[Kk]/\Ve i a b h=none/\FrN i a h h'):=by
 refine V5 Tryz.f50 [] 38 rfl rfl rfl rfl rfl rfl λB=>?_
 have D:=w.rows
 have R:=w.one
 refine qf (by decide) ?_
 simp only[go_sem,D,R,zb]
 refine qK (xE (Zt (λm T H=>∃(k:Nat) (y:AV) (d:List Int),k<=a.length/\H[i]? =some (we y)/\SlOf H y 1 (d.map qX)/\By d/\d.length<1099511627776/\SlOf H z 1 (a.map λp=>[.ptr p.1 p.2])/\(∀p∈a,Spot H i p)/\FrN i a h H/\Ve i a b h=Ve i (a.drop k) d H/\
  T 0= .ptr i 0/\T 9=z/\T 10=i64 a.length/\T 11=i64 k/\m=a.length - k) a.length
  ⟨0,y,b,by omega,hi,M,K,O,w,N,λ_ _ _ _ q=>q,rfl,by simp only[go_sem],by simp only[go_sem],by simp only[go_sem],by(simp only[go_sem]<;>rfl),rfl⟩ ?_))
 rintro m T H ⟨k,y,d,hk,hi,M,K,O,w,N,I,c,t0,t9,t10,A,rfl⟩
 refine qf (by decide) ?_
 simp only[go_sem,t10,A]
 refine qK (qf (by decide) ?_)
 simp only[go_sem]
 refine ways (λe=>?_) (λe=>?_)
 ·have s:=dlt e
  have v:(a.map λp=>[AV.ptr p.1 p.2])[k]? =some [AV.ptr a[k].1 a[k].2]:=by rw[zx,zi s];rfl
  have P:(k:Int)<a.length:=by omega
  have X:=w.at (i:=k) (by simpa using s)
  have D:=w.rows
  have f:=zD s
  have g:=N _ f
  have Q:a.drop k=a[k]::a.drop (k+1):=qI s
  rw[Q] at c
  obtain⟨p,S⟩:∃p,p=a[k]:=⟨_,rfl⟩
  rw[<-S] at v f g c
  have U:=M.one
  simp only[go_sem]
  refine qK (jD (xE ?_))
  refine qf (by decide) ?_
  simp only[go_sem,t9,A,X,D,v,P,zb,Int.toNat_natCast,zh]
  refine qK (qf (by decide) ?_)
  simp only[go_sem,t0,hi,U]
  refine zg (jzb _ y d M K O) ?_
  rintro _ L ⟨rfl,rfl⟩
  cases j:tkI d with
  | none=>
    rw[Qy j]
    simp only[go_sem]
    refine qK (jD (qf (by decide) ?_))
    simp only[go_sem]
    refine qK (wH (t:=true) (by simp only[go_sem]<;>rfl) (λ_=>?_) (λe=>by cases e))
    refine jba Vb Vc (by decide) (by decide) λT'=>?_
    refine⟨rfl,?_,I⟩
    rw[c,Ve,j]
  | some q=>
    obtain⟨n,r⟩:=q
    rw[zOa j]
    simp only[go_sem]
    refine qK (jD (qf (by decide) ?_))
    simp only[go_sem]
    refine qK (wH (t:=false) (by simp only[go_sem]<;>rfl) (λe=>by cases e) (λ_=>Js ?_))
    refine qK (qn _ (by decide) ?_)
    obtain⟨J,ty,cs,l,u⟩:=g
    have G:=W0 (cs:=cs) (o:=p.2) (x:=i64 n) u
    have C:∀o,(L.set p.1 o)[i]? =some (we y):=λo=>by rw[zc J];exact hi
    have F:Vd i L p n r=(L.set p.1 (.box ty (cs.set p.2 (i64 n)))).set i (we (.sl 1 (r.map qX))):=by unfold Vd;rw[vh l]
    obtain⟨e1,e2,Y⟩:=k9a K j
    have V:r.length<1099511627776:=by
     rw[e1,ze] at O
     omega
    have E:lay [y,bl false] 0 [AV.sl 1 (r.map qX)]=some [AV.sl 1 (r.map qX),bl false]:=rfl
    simp only[go_sem,t0,l,G,hi,C,E]
    refine qK (qn _ (by decide) ?_)
    simp only[go_sem,t0,t9,t10,A]
    rw[<-F]
    have g:Spot L i p:=⟨J,ty,cs,l,u⟩
    refine⟨a.length - (k+1),by omega,k+1,.sl 1 (r.map qX),r,by omega,?_,⟨rfl,λ_=>rfl⟩,Y,V,?_,λq hq=>(N q hq).step g,I.step f g,?_,qm (by omega) rfl,rfl⟩
    ·rw[F]
     exact zq (C _)
    ·rw[F]
     exact w.keep ((RowsK.setB l).trans (RowsK.setB (C _)))
    ·rw[c,Ve,j]
 ·have δ:=xb e
  have W:k=a.length:=by omega
  subst W
  rw[List.drop_length] at c
  simp only[go_sem]
  exact⟨.tup [],by simp only[go_sem],.inl ⟨rfl,d,c,K⟩⟩
def wZ(b:List Int):Option (Int × List Int):=match tkI b with
 | some (n,r)=>if n<=(r.length:Int) then some (n,r) else none
 | none=>none
def FrE(i:Nat)(h h':List Ob):Prop:=∀(j:Nat) (o:Ob),j≠i->h[j]? =some o->h'[j]? =some o
set_option maxHeartbeats 4000000 in
theorem Yaa(h:List Ob)(i:Nat)(y:AV)(b:List Int)(hi:h[i]? =some (we y))(E:SlOf h y 1 (b.map qX))(G:By b)(H:b.length<1099511627776):
  PCalls Tryz.prog 48 [.ptr i 0] h (λr h'=>∃n rest,wZ b=some (n,rest)/\r=i64 n/\h'=h.set i (we (.sl 1 (rest.map qX)))) (λC h'=>C=[Kk]/\wZ b=none/\FrE i h h'):=by
 refine V5 Tryz.f48 [.cell 2 3] 17 rfl rfl rfl rfl rfl rfl λB=>?_
 have A:=(zd.1 hi).1
 refine qf (by decide) ?_
 simp only[go_sem]
 refine qK (jD (jD ?_))
 refine Qx [_,_] _ rfl rfl (by decide) ?_
 simp only[go_sem]
 have g:∀M:List Ob,(h++M)[i]? =some (we y):=λM=>zf hi
 refine wS (Kja _ i y _ b [(h.length,0)] (g _) (E.app _) G H (yW (ty:=109) (st:=0) (by rw[zK (k:=1) rfl];rfl)) (λp m=>?_) (by show 1<_;omega)) ?_ ?_
 ·rw[zN] at m
  subst m
  exact⟨by show h.length≠i;omega,3,[i64 0],by rw[zM rfl];rfl,Nat.zero_lt_one⟩
 ·rintro r h' ⟨rfl,J,a,F⟩
  cases c:tkI b with
  | none=>rw[Ve,c] at a;cases a
  | some q=>
    obtain⟨n,rest⟩:=q
    rw[Ve,c] at a
    simp only[Ve,Option.some.injEq,Prod.mk.injEq] at a
    obtain⟨rfl,a⟩:=a
    subst a
    unfold Vd
    rw[vh (ty:=3) (cs:=[i64 0]) (by rw[zM rfl];rfl)]
    simp only[go_sem]
    rw[qb _ _ A]
    obtain⟨H2,d⟩:∃H2,H2=h.set i (we (.sl 1 (rest.map qX))):=⟨_,rfl⟩
    have l:H2.length=h.length:=by rw[d,zz]
    have w:H2[i]? =some (we (.sl 1 (rest.map qX))):=by rw[d];exact zq hi
    rw[<-d, <-l]
    have v:∀M,(H2++M)[i]? =some (we (.sl 1 (rest.map qX))):=λM=>zf w
    refine qK (qf (by decide) ?_)
    simp only[go_sem]
    refine zV rfl [] 0 [(1,0,[]),(2,0,[]),(3,0,[]),(4,0,[]),(0,0,[]),(5,0,[]),(6,0,[]),(7,0,[])] rfl (by decide) (by decide) ?_
    simp only[go_sem,v,zb]
    cases u:decide (n>(rest.length:Int))
    ·have f:wZ b=some (n,rest):=by
      unfold wZ
      rw[c]
      simp only
      rw[if_pos (by have:=of_decide_eq_false u;omega)]
     refine qK (wH (t:=false) (by simp only[go_sem,u]<;>rfl) (λe=>by cases e) (λ_=>Js ?_))
     refine qK (qn _ (by decide) ?_)
     simp only[go_sem]
     refine⟨i64 n,by(simp only[go_sem]<;>rfl),.inr ⟨H2,_,rfl,l,rfl,?_,n,rest,f,rfl,d⟩⟩
     rw[d]
     exact KeepLt.refl.set rfl (by simp only[Kq,qz,AV.lt,Zl,Bool.and_self])
    ·have f:wZ b=none:=by
      unfold wZ
      rw[c]
      simp only
      rw[if_neg (by have:=of_decide_eq_true u;omega)]
     refine qK (wH (t:=true) (by simp only[go_sem,u]<;>rfl) (λ_=>?_) (λe=>by cases e))
     refine jba Vb Vc (by decide) (by decide) λI=>?_
     refine⟨rfl,f,λj o x s=>?_⟩
     refine zf ?_
     rw[d,zc (λe=>x e.symm)]
     exact s
 ·rintro C h' ⟨rfl,D,z⟩
  refine⟨rfl,?_,?_⟩
  ·cases c:tkI b with
   | none=>unfold wZ;rw[c]
   | some q=>rw[Ve,c] at D;cases D
  ·intro j o x s
   refine z j o x (λp m=>?_) (zf s)
   rw[zN] at m
   subst m
   have:=(zd.1 s).1
   show h.length≠j
   omega
def jm:Nat->List Int->Option (List Int × List Int)
 | 0,b=>some ([],b)
 | k+1,b=>match tkI b with
   | none=>none
   | some (n,r)=>(jm k r).map λq=>(n::q.1,q.2)
def y6(H:List Ob):List (Nat × Nat)->List Int->List Ob
 | p::a,n::ns=>y6 (yZ H p n) a ns
 | _,_=>H
theorem xS:∀ {k:Nat} {b ns r:List Int},jm k b=some (ns,r)->ns.length=k
 | 0,b,ns,r,h=>by injection h with h;injection h with c a;rw[<-c];rfl
 | k+1,b,ns,r,h=>by
   rw[jm] at h
   split at h
   ·cases h
   ·obtain⟨q,c,a⟩:=Option.map_eq_some_iff.1 h
    injection a with a h3
    rw[<-a,List.length_cons,xS (r:=q.2) c]
theorem ZN:∀ {k:Nat} {b ns r:List Int},By b->jm k b=some (ns,r)->By r
 | 0,b,ns,r,c,h=>by injection h with h;injection h with d a;rw[<-a];exact c
 | k+1,b,ns,r,c,h=>by
   rw[jm] at h
   split at h
   ·cases h
   ·rename_i n f e
    obtain⟨q,d,a⟩:=Option.map_eq_some_iff.1 h
    injection a with a h3
    rw[<-h3]
    exact ZN (k9a c e).2.2 (ns:=q.1) d
theorem vX:∀(k m:Nat) (b:List Int),jm (k+m) b=(jm k b).bind λq=>(jm m q.2).map λz=>(q.1++z.1,z.2)
 | 0,m,b=>by
   rw[Nat.zero_add]
   show _=(jm m b).map λz=>([]++z.1,z.2)
   cases jm m b<;>rfl
 | k+1,m,b=>by
   rw[show k+1+m=(k+m)+1 by omega,jm,jm]
   cases tkI b with
   | none=>rfl
   | some q=>
     obtain⟨n,r⟩:=q
     simp only
     rw[vX k m r]
     cases jm k r with
     | none=>rfl
     | some z=>
       simp only[Option.bind_some,Option.map_some]
       cases jm m z.2<;>rfl
theorem Kka{H:List Ob}{i:Nat}{p:Nat × Nat}{n:Int}{o:Ob}(h:p.1≠i):yZ (H.set i o) p n=(yZ H p n).set i o:=by
 unfold yZ
 rw[zc (Ne.symm h)]
 split
 ·rw[List.set_comm _ _ (Ne.symm h)]
 ·rfl
theorem zPa{i:Nat}{o:Ob}:∀ {a:List (Nat × Nat)} {ns:List Int} {H:List Ob},(∀p∈a,p.1≠i)->y6 (H.set i o) a ns=(y6 H a ns).set i o
 | [],_,_,_=>by cases ‹List Int› <;>rfl
 | p::a,[],_,_=>rfl
 | p::a,n::ns,H,h=>by
   rw[y6,y6,Kka (h p (.head _)),zPa λq b=>h q (.tail _ b)]
theorem jda{i:Nat}:∀ {a:List (Nat × Nat)} {b:List Int} {H:List Ob},(∀p∈a,p.1≠i)->a≠[]->Ve i a b H=(jm a.length b).map λq=>(q.2,(y6 H a q.1).set i (we (.sl 1 (q.2.map qX))))
 | [],_,_,_,h=>absurd rfl h
 | [p],b,H,h,_=>by
   rw[Ve,List.length_singleton,jm]
   cases tkI b with
   | none=>rfl
   | some q=>rfl
 | p::p2::a,b,H,h,_=>by
   rw[Ve,List.length_cons,jm]
   cases tkI b with
   | none=>rfl
   | some q=>
     obtain⟨n,r⟩:=q
     simp only
     rw[jda (λq c=>h q (.tail _ c)) (by simp)]
     cases jm (p2::a).length r with
     | none=>rfl
     | some z=>
       simp only[Option.map_some]
       unfold Vd
       rw[zPa λq c=>h q (.tail _ c),zU]
       rfl
def InW(l:List Spn)(a b:Int):Prop:=∀t,Cov l t->a<=t/\t<b
theorem yYa:∀ {l:List Spn} {a b:Int},a<=b->PlainS l->InW l a b->0<=jK l/\jK l<=b - a
 | [],a,b,h,_,_=>by simp[jK];omega
 | x::l,a,b,h,d,hi=>by
   have k:=d.pos x (.head _)
   have j:=hi x.from_ ⟨x,.head _,by omega,by omega⟩
   have m:=hi (x.to_ - 1) ⟨x,.head _,by omega,by omega⟩
   obtain⟨i,g⟩:=qg.1 d.gap
   have n:=yYa (l:=l) (a:=x.to_) (b:=b) (by omega) ⟨λs c=>d.pos s (.tail _ c),g⟩ λt ⟨s,c,f,e⟩=>by
    have:=i s c
    have:=hi t ⟨s,.tail _ c,f,e⟩
    omega
   have:jK (x::l)=(x.to_ - x.from_)+jK l:=by simp[jK]
   omega
theorem QMa{l:List Spn}{a b:Int}(h:a<=b)(hi:InW l a b):0<=jK (qw l)/\jK (qw l)<=b - a:=
 yYa h (vN l) λt c=>hi t ((vq l t).1 c).2.2
theorem zQa:∀ {l:List Spn} {n t:Int},Cov (QS l n) t->Cov l t
 | [],n,t,h=>h
 | s::r,n,t,⟨x,a,c,b⟩=>by
   rw[QS] at a
   split at a
   ·cases a
   ·rcases zE.1 a with rfl|a
    ·refine⟨s,.head _,?_,?_⟩<;>(unfold QR at c b;simp only at c b;omega)
    ·obtain⟨y,d,q⟩:=zQa ⟨x,a,c,b⟩
     exact⟨y,.tail _ d,q⟩
theorem jea{l:List Spn}{n t:Int}(h:Cov (qJ l n) t):Cov l t:=((vq l t).1 (zQa h)).2.2
theorem zRa{W:List Spn}{L:List Int}{n t:Int}(h:Cov (L.flatMap λd=>qJ (xz W d) n) t):Cov W t:=by
 obtain⟨x,a,q⟩:=h
 obtain⟨d,_,b⟩:=List.mem_flatMap.1 a
 exact(zqa (jea ⟨x,b,q⟩)).2.1
theorem Kla{s:Setup}{p:List Spn}{w t:Int}{j:Nat}(h:Cov (oj (JS s p w) j) t):Cov (js p w) t:=by
 match j with
 | 0=>exact zRa (jea h)
 | 1=>exact zRa (X6.1 h).2.1
 | j+2=>exact(X6.1 h).2.1
theorem QNa{s:Setup}{l:List Spn}{t:Int}(h:Cov (jX s l) t):Cov l t:=by
 unfold jX at h
 split at h
 ·exact(KT.1 h).2.1
 ·obtain⟨x,a,_⟩:=h;cases a
theorem xaa{l:List Spn}{k:Int}{p:Pt}(h:p∈ZQ l k){t:Int}(c:p.from_<=t)(b:t<p.to_):Cov l t:=by
 obtain⟨x,a,rfl⟩:=zw.1 h
 exact⟨x,a,c,b⟩
theorem yZa{s:Setup}{o:List Spn × List Spn × List Spn}{fr:List Spn}{p:Pt}{t:Int}(b:p.from_<=t)(a:t<p.to_):∀ {j:Nat},p∈Xx s o fr j->Cov fr t∨∃i,Cov (oj o i) t
 | 0,h=> .inl (xaa h b a)
 | j+1,h=>by
   rcases zJ.1 h with h|h
   ·rcases zJ.1 h with h|h
    ·exact yZa b a h
    ·exact .inr ⟨j,(X6.1 (xaa h b a)).2.1⟩
   ·exact .inr ⟨j,QNa (xaa h b a)⟩
theorem y0a{s:Setup}{L:List Seg}{wk k:Int}:0<=Zj (wc s L wk) k/\Zj (wc s L wk) k<=604800:=by
 have h:=QMa (l:=wY (wc s L wk) k) (a:=wk*604800) (b:=(wk+1)*604800) (by omega) λt ⟨x,d,f,e⟩=>by
  obtain⟨p,c,rfl⟩:=zw.1 d
  have c:=(qq.1 c).1
  rcases yZa (t:=t) f e c with q|⟨i,q⟩
  ·exact(zqa q).2.2
  ·exact(zqa (Kla q)).2.2
 have:(wk+1)*604800 - wk*604800=604800:=by omega
 rw[this] at h
 exact h
structure Money (s:Setup):Prop where
 rates:∀r∈s.rates,0<=r/\r<=100000
 diff:0<=s.diff/\s.diff<=100000
 least:0<=s.least/\s.least<=100000
 bonus:∀t∈s.tiers,0<=t.2/\t.2<=100000
theorem vba:∀ {l:List KG} {last:Int},xV last l=false->∀t∈l,0<=t.2/\t.2<=100000
 | [],_,_,_,h=>by cases h
 | x::l,last,a,t,h=>by
   rw[xV,zY] at a
   rcases zE.1 h with rfl|h
   ·have:=a.1
    unfold Zf at this
    rw[zY] at this
    exact Qj (by simpa using this.2)
   ·exact vba a.2 t h
theorem vca{s:Setup}(h:qv s=true):Money s:=by
 simp only[qv,wM,zl,Bool.not_eq_true'] at h
 obtain⟨_,⟨⟨⟨_,d⟩,a⟩,_⟩,c⟩:=h
 exact⟨λr b=>wl d b,wl a (by simp),wl a (by simp),vba c⟩
theorem y1a(n:Int):0<=QZ n/\QZ n<=604800:=by unfold QZ;omega
theorem jfa{n d:Int}(a:0<=n)(g:n<4611686018427387904)(e:0<d):(kw n d).1=n / d/\(kw n d).2=n % d:=by
 have c:n.tmod d=n % d:=Int.tmod_eq_emod_of_nonneg a
 have b:n.tdiv d=n / d:=Int.tdiv_eq_ediv_of_nonneg a
 have h:=Int.emod_nonneg n (show d≠0 by omega)
 have f:0<=n / d:=Int.ediv_nonneg a (by omega)
 have i:n / d<=n:=Int.ediv_le_self d a
 unfold kw
 rw[c,b,if_neg (by omega)]
 exact⟨qp (by unfold Fit;omega),rfl⟩
theorem y2a{n d:Int}(a:0<=n)(f:n<4611686018427387904)(c:0<d)(e:d<4611686018427387904):0<=qaa n d/\qaa n d<=n+1:=by
 obtain⟨b,g⟩:=jfa a f c
 have h:0<=n / d:=Int.ediv_nonneg a (by omega)
 have i:n / d<=n:=Int.ediv_le_self d a
 unfold qaa KL
 rw[if_neg (by omega),b]
 split
 ·show 0<=wr (n / d+1)/\wr (n / d+1)<=n+1
  rw[qp (by unfold Fit;omega)];omega
 ·show 0<=n / d/\n / d<=n+1
  omega
theorem zvb{n d:Int}(a:0<=n)(f:n<4611686018427387904)(b:0<d):0<=(upI n d).1/\(upI n d).1<=n+1/\n<=(upI n d).1*d:=by
 obtain⟨e,c⟩:=jfa a f b
 have j:=Int.emod_nonneg n (show d≠0 by omega)
 have g:=Int.emod_lt_of_pos n b
 have h:0<=n / d:=Int.ediv_nonneg a (by omega)
 have k:n / d<=n:=Int.ediv_le_self d a
 have i:n=n / d*d+n % d:=by have:=Int.mul_ediv_add_emod n d;rw[Int.mul_comm] at this;omega
 unfold upI
 rw[if_neg (by omega),e,c]
 split
 ·show 0<=wr (n / d+1)/\wr (n / d+1)<=n+1/\n<=wr (n / d+1)*d
  rw[qp (by unfold Fit;omega),Int.add_mul]
  omega
 ·show 0<=n / d/\n / d<=n+1/\n<=n / d*d
  omega
theorem y3a:∀ {l:List Int} {a:Int},0<=a->(∀x∈l,0<=x/\x<17592186044416)->a+17592186044416*l.length<4611686018427387904->Ke a l=(a+l.sum,0)
 | [],a,_,_,_=>by simp[Ke]
 | x::l,a,i,b,d=>by
   obtain⟨h,g⟩:=b x (.head _)
   rw[List.length_cons] at d
   have c:wr (a+x)=a+x:=qp (by unfold Fit;omega)
   rw[Ke,c]
   have e:((decide (x>0)==decide (a+x>a)) || x==0)=true:=by
    have:decide (x>0)=decide (a+x>a):=decide_eq_decide.2 (by omega)
    rw[this,beq_self_eq_true,Bool.true_or]
   rw[if_pos e,y3a (by omega) (λy f=>b y (.tail _ f)) (by omega),List.sum_cons,Int.add_assoc]
theorem QOa{s:Setup}(m:Money s){r:Int}(a:0<=r/\r<=100000){j:Nat}(b:j<=6):0<=ZL s r j/\ZL s r j<=1000000:=by
 have e:=m.diff
 have t3:∀k:Int,0<=k->k<=3->0<=Kd r k/\Kd r k<=400000:=λk k0 k3=>by
  unfold Kd
  rw[qp (n:=k+1) (by unfold Fit;omega)]
  have d:0<=r*(k+1):=Int.mul_nonneg a.1 (by omega)
  have c:r*(k+1)<=100000*4:=Int.mul_le_mul a.2 (by omega) (by omega) (by omega)
  rw[qp (by unfold Fit;omega)]
  omega
 unfold ZL
 split
 ·have:=t3 ((j:Int) - 3) (by omega) (by omega)
  rw[qp (n:=2*s.diff) (by unfold Fit;omega),qp (by unfold Fit;omega)]
  omega
 ·have:=t3 j (by omega) (by omega)
  omega
theorem Kma{s:Setup}(m:Money s)(w:Nat):0<=JU s w/\JU s w<=100000:=by
 unfold JU
 rw[zT]
 cases h:s.rates[w]? with
 | none=>exact⟨by decide,by decide⟩
 | some r=>exact m.rates r (qi h)
theorem vda{s:Setup}(m:Money s)(w:Nat)(t:Nat->Int){j:Nat}(c:j<=6):0<=vm s w t j/\vm s w t j<17592186044416:=by
 unfold vm
 split
 ·exact⟨by decide,by decide⟩
 ·have b:=y1a (t j)
  have a:=QOa m (Kma m w) c
  have e:0<=QZ (t j)*ZL s (JU s w) j:=Int.mul_nonneg b.1 a.1
  have f:QZ (t j)*ZL s (JU s w) j<=604800*1000000:=Int.mul_le_mul b.2 a.2 a.1 (by omega)
  rw[qp (by unfold Fit;omega)]
  have:=y2a (n:=QZ (t j)*ZL s (JU s w) j) (d:=7200) e (by omega) (by omega) (by omega)
  omega
theorem jga{s:Setup}(m:Money s)(g tier:Int):(0<=vd s g tier/\vd s g tier<17592186044416)/\(tier<0->vd s g tier=0):=by
 unfold vd
 split
 ·rename_i h
  have b:=y1a g
  have a:0<=Wt s tier.toNat/\Wt s tier.toNat<=100000:=by
   unfold Wt
   rw[zT]
   cases q:s.tiers[tier.toNat]? with
   | none=>exact⟨by decide,by decide⟩
   | some r=>exact m.bonus r (qi q)
  have c:0<=QZ g*Wt s tier.toNat:=Int.mul_nonneg b.1 a.1
  have e:QZ g*Wt s tier.toNat<=604800*100000:=Int.mul_le_mul b.2 a.2 a.1 (by omega)
  rw[qp (by unfold Fit;omega)]
  have:=y2a (n:=QZ g*Wt s tier.toNat) (d:=3600) c (by omega) (by omega) (by omega)
  exact⟨by omega,λq=>by omega⟩
 ·exact⟨⟨by decide,by decide⟩,λ_=>rfl⟩
def Wwa(b:Int)(f:Nat->Int):Nat->Int
 | 0=>b
 | n+1=>wr (Wwa b f n+f n)
def w2a(t:Nat->Int):Nat->Int
 | 0=>0
 | n+1=>if n=0 then w2a t n else wr (w2a t n+t n)
theorem Kna{t:Nat->Int}(b:∀j,0<=t j/\t j<=604800):∀n,n<=7->w2a t n=Jj t n/\0<=Jj t n/\Jj t n<=604800*n
 | 0,_=>⟨rfl,by show(0:Int)<=0;omega,by show(0:Int)<=604800*((0:Nat):Int);omega⟩
 | n+1,d=>by
   obtain⟨c,f,h⟩:=Kna b n (by omega)
   have g:=b n
   have e:QZ (t n)=t n:=by unfold QZ;omega
   rw[w2a,Jj]
   by_cases a:n=0
   ·subst a
    rw[if_pos rfl,if_pos rfl]
    exact⟨rfl,by omega,by omega⟩
   ·rw[if_neg a,if_neg a,e,c,qp (by unfold Fit;omega)]
    exact⟨rfl,by omega,by omega⟩
structure PayOk (s:Setup) (t:Nat->Int) (p:PayR) (tier:Int):Prop where
 zero:p.pays 0=0
 sum:Wwa (wr (p.extra+p.supp)) p.pays 7=p.total
 none:tier<0->p.extra=0
 least:wr (w2a t 7*s.least)<=wr (p.total*3600)
def xM(e:Int):Prop:=e=0∨e=10∨e=20∨e=100
theorem w3a(n d:Int):xM (make n d).2:=by
 unfold make
 split
 ·exact .inr (.inr (.inl rfl))
 ·split
  ·exact .inl rfl
  ·split
   ·exact .inr (.inl rfl)
   ·exact .inl rfl
theorem WD(v:qt->qt->Int × Int)(a b:qt):xM (Ze v a b).2:=by
 unfold Ze
 split
 ·exact w3a _ _
 ·exact .inr (.inr (.inl rfl))
theorem Koa:∀ {l:List qt} {o:qt},xM (WK o l).2
 | [],o=> .inl rfl
 | r::l,o=>by
   rw[WK]
   split
   ·exact WD _ _ _
   ·exact Koa
theorem w4a(l:List qt):xM (yS l).2:=by
 unfold yS
 split
 ·exact Koa
 ·exact .inr (.inr (.inl rfl))
theorem Kl{f:qt->qt->qt × Int}(c:∀a b,xM (f a b).2){a b:qt}{e:Int}(d:xM e):xM (vY f a b e).2:=by
 unfold vY
 split
 ·exact c _ _
 ·exact d
theorem Wxa{s:Setup}{e:Ev}{a:Int}:xM (ZH s e a).2:=
 Kl (WD jJa) (Kl (λ_ _=>w4a _) (Kl (WD jJa) (Kl (λ_ _=>w4a _) (Kl (WD jJa) (Kl (WD jJa) (Kl (WD jJa) (.inl rfl)))))))
theorem zwb{s:Setup}{e:Ev}:xM (vl s e).2:=by
 unfold vl
 split
 ·split
  ·exact .inr (.inr (.inr rfl))
  ·split
   ·exact .inl rfl
   ·exact Wxa
 ·exact .inr (.inr (.inr rfl))
theorem Km{z v:qt × Int}(b:xM z.2)(a:xM v.2):xM (jd z v).2:=by
 unfold jd
 split
 ·exact a
 ·exact b
theorem Kpa{s:Setup}{ev:List Ev}:∀(l:List Seg) (z:qt × Int),xM z.2->xM (l.foldl (λz g=>jd z ((0,1),(vl s (ZI ev g)).2)) z).2
 | [],_,h=>h
 | g::l,z,h=>Kpa l _ (Km h zwb)
theorem Kqa{c:Prop}[Decidable c]{a b:qt × Int}(d:xM a.2)(e:xM b.2):xM (if c then a else b).2:=by
 split<;>assumption
theorem zxb{s:Setup}{ev:List Ev}{l:List Seg}{k:Int}:xM (kka s ev l k).err:=by
 unfold kka
 extract_lets sel eligible goals all0 all1 lost all2 all3 all4 done
 have h0:xM all0.2:=Kpa _ _ (.inl rfl)
 have b:xM all1.2:=Km h0 (w4a _)
 have g:xM lost.2:=Km b (w3a _ _)
 have a:xM all2.2:=Km b g
 have e:xM all3.2:=Kqa (Km a (WD _ _ _)) a
 have c:xM all4.2:=Kqa e e
 have f:xM done.2:=Kqa (Km (Km c (w3a _ _)) (WD _ _ _)) c
 by_cases d:done.2=0
 ·rw[if_pos d];exact .inl rfl
 ·rw[if_neg d];exact f
theorem Kra{s:Setup}{l:List Ev}{w k:Int}:xM (kE s l w k).err:=by
 unfold kE
 split
 ·exact zxb
 ·exact .inl rfl
structure GrossOk (s:Setup) (R:RowV):Prop where
 bad:R.err=70∨R.err=80∨R.err=212->Wwa (wr (R.extra+R.supp)) R.pays 7=0/\w2a R.tot 7=0/\R.total=0/\R.tier= -1/\R.elig=0
 sum:¬ (R.err=70∨R.err=80∨R.err=212)->Wwa (wr (R.extra+R.supp)) R.pays 7=R.total/\R.pays 0=0/\(0<=R.tier∨R.extra=0)/\((0<R.elig/\R.err=0)∨R.tier= -1)/\wr (w2a R.tot 7*s.least)<=wr (R.total*3600)
theorem Wya{F:Int}{z S:qt × Int}{a:Int}{m:Nat}(j:0<=F/\F<=86400)(k:m<2097152)(b:Fit a):
  (0<=(xh F z S a m).earned.1/\0<=(xh F z S a m).earned.2)/\0<=(xh F z S a m).perf.1/\0<=(xh F z S a m).perf.2:=by
 by_cases h:(xh F z S a m).err=0
 ·obtain⟨D,d⟩:=Xla j k b h
  obtain⟨c,c0⟩:=koa d.lo
  rw[d.earned]
  refine⟨⟨c0,by have:=c.pos;omega⟩,?_⟩
  by_cases e:0<a
  ·obtain⟨n1,n2⟩:=d.some e
   have l:Lo (a,1):=⟨by simp,by simp,by simp only;omega,by simp⟩
   obtain⟨a1,a2,a3⟩:=Xja c l e
   rw[a1] at n2
   obtain⟨b1,b2⟩:=WX a2 a3 (by rw[n2])
   rw[n2] at b1 b2
   obtain⟨P,i⟩:∃P,P=(xh F z S a m).perf:=⟨_,rfl⟩
   simp only[<-i] at b1 b2⊢
   have n:=b1.pos
   simp only at a3
   refine⟨?_,by omega⟩
   by_cases q:0<=P.1
   ·exact q
   ·exfalso
    have g:P.1*((wz D).2*a)<0:=Int.mul_neg_of_neg_of_pos (by omega) a3.1
    have f:0<=(wz D).1*1*P.2:=Int.mul_nonneg (by omega) (by omega)
    omega
  ·rw[d.none e];exact⟨by decide,by decide⟩
 ·obtain⟨g,f⟩:=yBa h
  rw[g,f]
  exact⟨⟨by decide,by decide⟩,by decide,by decide⟩
theorem Wza{s:Setup}{l:List Ev}{w k:Int}(a:qv s=true)(b:l.length<2097151):
  ((0<=(kE s l w k).earned.1/\0<=(kE s l w k).earned.2)/\0<=(kE s l w k).perf.1/\0<=(kE s l w k).perf.2)/\0<=(kE s l w k).eligible:=by
 constructor
 ·rw[kE,if_pos a,JP]
  have:=qXa (s:=s) (w:=w) (k:=k) (l:=l)
  exact Wya (Wp a) (by omega) zda
 ·rw[Qsa a]
  exact(XHa (JG (s:=s) (l:=l) (w:=w) a).1 k).1.1
theorem zyb{s:Setup}(o:qv s=true)(w:Nat){t:Nat->Int}(u:∀j,0<=t j/\t j<=604800)(g tier:Int):
  (∀j,j<=6->0<=(jUa s w t g tier).pays j)/\0<=(jUa s w t g tier).extra/\0<=(jUa s w t g tier).supp/\0<=(jUa s w t g tier).total:=by
 have m:=vca o
 obtain⟨k,y⟩:=jga m g tier
 have b:∀j,j<=6->0<=vm s w t j/\vm s w t j<17592186044416:=λj e=>vda m w t e
 obtain⟨B,l,A⟩:=Kna u 7 (zn _)
 have f:=m.least
 have c:0<=Jj t 7*s.least:=Int.mul_nonneg l f.1
 have p:Jj t 7*s.least<=604800*7*100000:=Int.mul_le_mul (by omega) f.2 f.1 (by omega)
 have h:wr (Jj t 7*s.least)=Jj t 7*s.least:=qp (by unfold Fit;omega)
 obtain⟨J,C,I⟩:=zvb (n:=Jj t 7*s.least) (d:=3600) c (by omega) (by omega)
 have D:=b 0 (by omega)
 have p1:=b 1 (by omega)
 have p2:=b 2 (by omega)
 have v:=b 3 (by omega)
 have z:=b 4 (by omega)
 have G:=b 5 (by omega)
 have H:=b 6 (by omega)
 have a:Ke 0 [vm s w t 0,vm s w t 1,vm s w t 2,vm s w t 3,vm s w t 4,vm s w t 5,vm s w t 6,vd s g tier]=(0+[vm s w t 0,vm s w t 1,vm s w t 2,vm s w t 3,vm s w t 4,vm s w t 5,vm s w t 6,vd s g tier].sum,0):=
  y3a (by omega) (λx i=>by
   simp only[zE,List.not_mem_nil,or_false] at i
   rcases i with rfl|rfl|rfl|rfl|rfl|rfl|rfl|rfl<;>assumption) (by simp only[List.length_cons,List.length_nil];omega)
 simp only[List.sum_cons,List.sum_nil] at a
 unfold jUa
 simp only[a,h]
 refine⟨λj e=>(b j e).1,k.1,by omega,?_⟩
 generalize vm s w t=P at*
 generalize vd s g tier=E at*
 generalize (upI (Jj t 7*s.least) 3600).1=U at*
 clear a h
 have q:wr (U - (0+(P 0+(P 1+(P 2+(P 3+(P 4+(P 5+(P 6+(E+0))))))))))=U - (P 0+P 1+P 2+P 3+P 4+P 5+P 6+E):=by rw[qp (by unfold Fit;omega)];omega
 rw[q]
 generalize F:max 0 (U - (P 0+P 1+P 2+P 3+P 4+P 5+P 6+E))=S
 have r:0<=S/\S<=U:=by omega
 rw[qp (by unfold Fit;omega)]
 omega
def opN(t:TellS):Nat:=if t.open_.isSome then 1 else 0
def Kn(t:TellS):Nat:=t.flags.length+opN t
theorem vea{s:Setup}{t:TellS}{m:Int}:Kn (jO s t m)<=Kn t:=by
 unfold jO
 split
 ·exact zn _
 ·rename_i e os a
  split
  ·show(t.flags++[(⟨e.id,1⟩:Flg)]).length+0<=t.flags.length+opN t
   have:opN t=1:=by unfold opN;rw[a];rfl
   rw[ze,this]
   exact zn _
  ·exact zn _
theorem Ksa{s:Setup}{t:TellS}{e:Ev}:Kn (yK s t e)<=Kn t+1:=by
 have b:=vea (s:=s) (t:=t) (m:=e.at_)
 unfold yK
 generalize jO s t e.at_=u at*
 split
 ·split
  ·rename_i a
   show u.flags.length+1<=_
   unfold Kn at b⊢
   omega
  ·rename_i f os a
   have:opN u=1:=by unfold opN;rw[a];rfl
   show(u.flags++[(⟨f.id,2⟩:Flg)]).length+1<=_
   rw[ze]
   unfold Kn at b⊢
   simp only[List.length_cons,List.length_nil]
   omega
 ·split
  ·rename_i a
   show(u.flags++[(⟨e.id,3⟩:Flg)]).length+opN u<=_
   rw[ze]
   unfold Kn at b⊢
   simp only[List.length_cons,List.length_nil]
   omega
  ·rename_i f os a
   have:opN u=1:=by unfold opN;rw[a];rfl
   split
   ·show u.flags.length+0<=_
    unfold Kn at b⊢
    omega
   ·show u.flags.length+1<=_
    unfold Kn at b⊢
    omega
theorem Kta{s:Setup}{w:Int}:∀(l:List Ev) {t:TellS},Kn (l.foldl (vM s w) t)<=Kn t+l.length
 | [],_=>zn _
 | e::l,t=>by
   have b:=Kta (s:=s) (w:=w) l (t:=vM s w t e)
   have a:Kn (vM s w t e)<=Kn t+1:=by
    unfold vM
    split
    ·exact Ksa
    ·omega
   rw[List.foldl_cons,List.length_cons]
   omega
theorem jha{s:Setup}{l:List Ev}{w:Int}:(qF s l w).2.length<=l.length:=by
 have b:=Kta (s:=s) (w:=w) (qu l) (t:=⟨none,[],[]⟩)
 have a:=vea (s:=s) (t:=goP s w (qu l)) (m:=32054400)
 have c:=(vr l).length_eq
 have h0:Kn ⟨none,[],[]⟩=0:=rfl
 unfold qF
 split
 ·show(jO s (goP s w (qu l)) 32054400).flags.length<=_
  unfold goP at a⊢
  unfold Kn at b a h0
  omega
 ·simp
def FlK(t:TellS):Prop:=∀x∈t.flags,0<=x.kind/\x.kind<=3
theorem FlK.flag{t:TellS}(h:FlK t)(e:Ev){k:Int}(b:0<=k/\k<=3):FlK (wh t e k):=λx a=>by
 rcases zJ.1 (show x∈t.flags++[⟨e.id,k⟩] from a) with a|a
 ·exact h x a
 ·rw[zN] at a;subst a;exact b
theorem FlK.late{s:Setup}{t:TellS}(h:FlK t)(m:Int):FlK (jO s t m):=by
 unfold jO
 split
 ·exact h
 ·split
  ·exact h.flag _ (by decide)
  ·exact h
theorem FlK.next{s:Setup}{t:TellS}(h:FlK t)(e:Ev):FlK (yK s t e):=by
 have a:=h.late (s:=s) e.at_
 unfold yK
 split
 ·split
  ·exact a
  ·exact a.flag _ (by decide)
 ·split
  ·exact a.flag _ (by decide)
  ·split
   ·exact a
   ·exact a
theorem FlK.go{s:Setup}{w:Int}:∀(l:List Ev) {t:TellS},FlK t->FlK (l.foldl (vM s w) t)
 | [],_,h=>h
 | e ::l,t,h=>FlK.go l (by
     unfold vM
     split
     ·exact h.next e
     ·exact h)
theorem jia{s:Setup}{l:List Ev}{w:Int}:∀x∈(qF s l w).2,0<=x.kind/\x.kind<=3:=by
 have h0:FlK ⟨none,[],[]⟩:=λ_ h=>by cases h
 unfold qF
 split
 ·exact FlK.late (FlK.go (qu l) h0) _
 ·intro x a;cases a
theorem Vf:∀ {ns b:List Int},(∀n∈ns,0<=n)->xY (b,true) ns=(b++ns.flatMap jb,true)
 | [],b,_=>by simp[xY]
 | n::ns,b,h=>by
   have c:kJa [n]=false:=by
    have:=h n (.head _)
    simp[kJa]
    omega
   have d:Zm (b,true) n=(b++jb n,true):=by
    unfold Zm wQ
    rw[c]
    simp
   have a:=Vf (ns:=ns) (b:=b++jb n) λk e=>h k (.tail _ e)
   unfold xY at a⊢
   rw[List.foldl_cons,d,a,List.flatMap_cons,zp]
theorem zSa{s:Setup}{w wk:Int}(h:ve s w wk=0):qv s=true/\(0<=w/\w<(s.rates.length:Int))/\0<=wk/\wk<=52:=by
 unfold ve at h
 split at h
 ·cases h
 ·split at h
  ·cases h
  ·split at h
   ·cases h
   ·rename_i c b a
    refine⟨?_,?_,?_⟩
    ·simpa using c
    ·simp at b;omega
    ·simp at a;omega
theorem jIb{s:Setup}(f:SFit s){l:List Ev}{w wk:Int}(L:ve s w wk=0)(T:l.length<=200):kC (jj s l w wk).1 (jj s l w wk).2=true:=by
 obtain⟨m,S,k0⟩:=zSa L
 have u:(evR s w l).length<=l.length:=WY s w l
 have E:=jha (s:=s) (l:=evR s w l) (w:=w)
 have B:=qo (λg=>K1 (evR s w l) g==wk) (qF s (evR s w l) w).2
 unfold jj
 rw[if_neg (by omega)]
 obtain⟨F,v⟩:∃F,F=xq (evR s w l) (qF s (evR s w l) w).2 wk:=⟨_,rfl⟩
 have I:F.length<=200:=by rw[v];unfold xq;omega
 have r:∀x∈F,0<=x.id/\0<=x.kind:=λx d=>by
  rw[v] at d
  have d:=(qq.1 d).1
  obtain⟨e,G,z⟩:=VC x d
  have h:=(qq.1 G).2
  have o:wi s e=true:=by
   unfold JW at h
   cases q:wi s e
   ·rw[q] at h;simp at h
   ·rfl
  have:=(Z1 (Qk o)).2.1
  exact⟨by omega,(jia x d).1⟩
 rw[<-v]
 have b:∀j:Nat,0<=Zj (wc s (qF s (evR s w l) (w.toNat:Int)).1 wk) j/\Zj (wc s (qF s (evR s w l) (w.toNat:Int)).1 wk) j<=604800:=λj=>y0a
 have O:=Wza (s:=s) (l:=evR s w l) (w:=(w.toNat:Int)) (k:=wk) m (by omega)
 have i:=Kra (s:=s) (l:=evR s w l) (w:=(w.toNat:Int)) (k:=wk)
 show kC (wxa s (evR s w l) w.toNat wk) F=true
 unfold wxa
 extract_lets P tot tier p
 have Q:=zyb m w.toNat b P.eligible tier
 have c:Fit (tier+1)/\ -1<=tier:=by
  show Fit (ite _ (kV s _) (-1)+1)/\ -1<=ite _ (kV s _) (-1)
  split
  ·refine⟨(kYa f _).2,?_⟩
   cases u:rok P.perf
   ·have:kV s P.perf= -1:=by simp[kV,u]
    omega
   ·rcases yxa m u with⟨e,_⟩|⟨j,t,z,A,_⟩
    ·omega
    ·omega
  ·exact⟨by unfold Fit;decide,by decide⟩
 have y:wr (tier+1)=tier+1:=qp c.1
 have i:xM P.err:=i
 obtain⟨⟨⟨z,A⟩,C,D⟩,R⟩:=O
 obtain⟨p1,p2,H,M⟩:=Q
 have K:decide (P.err>100000)=false:=by
  unfold xM at i
  rw[decide_eq_false_iff_not];omega
 have N:decide ((F.length:Int)>200)=false:=by rw[decide_eq_false_iff_not];omega
 unfold kC
 simp only[K,N,Bool.or_self,Bool.not_false,Bool.true_and]
 rw[Vf]
 intro n a
 unfold jq j8 Q5 Z3 wo at a
 simp only[zJ,zE,List.not_mem_nil,or_false,List.mem_flatMap] at a
 have t0:=b 0
 have t1:=b 1
 have t2:=b 2
 have t3:=b 3
 have t4:=b 4
 have t5:=b 5
 have t6:=b 6
 have J:0<=P.err:=by unfold xM at i;omega
 rcases a with((((a|a)|a)|a)|a)|⟨x,d,a⟩
 ·rcases a with rfl|rfl|rfl
  ·exact zh _
  ·exact k0.1
  ·exact J
 ·rcases a with rfl|rfl|rfl|rfl|rfl|rfl|rfl
  ·exact t0.1
  ·exact t1.1
  ·exact t2.1
  ·exact t3.1
  ·exact t4.1
  ·exact t5.1
  ·exact t6.1
 ·rcases a with rfl|rfl|rfl|rfl|rfl|rfl|rfl
  ·exact p1 0 (by omega)
  ·exact p1 1 (by omega)
  ·exact p1 2 (by omega)
  ·exact p1 3 (by omega)
  ·exact p1 4 (by omega)
  ·exact p1 5 (by omega)
  ·exact p1 6 (by omega)
 ·rcases a with rfl|rfl|rfl|rfl|rfl|rfl|rfl|rfl|rfl
  ·exact z
  ·exact A
  ·exact C
  ·exact D
  ·exact R
  ·rw[y];omega
  ·exact p2
  ·exact H
  ·exact M
 ·subst a;omega
 ·obtain⟨a1,a2⟩:=r x d
  rcases a with rfl|rfl
  ·exact a1
  ·exact a2
def vfa(n:Int):Prop:=0<=n/\n<=9223372036854775807
theorem V6:∀ {ns:List Int} (rest:List Int),(∀n∈ns,vfa n)->jm ns.length (ns.flatMap jb++rest)=some (ns,rest)
 | [],_,_=>rfl
 | n::ns,rest,h=>by
   obtain⟨c,b⟩:=h n (.head _)
   rw[List.length_cons,jm,List.flatMap_cons,zp,Kfa c b]
   simp only
   rw[V6 rest λm a=>h m (.tail _ a)]
   rfl
theorem zTa:∀ {k:Nat} {b ns r:List Int},By b->jm k b=some (ns,r)->b=ns.flatMap jb++r/\(∀n∈ns,vfa n)/\By r
 | 0,b,ns,r,d,h=>by
   injection h with h
   injection h with c a
   subst c a
   exact⟨rfl,λ_ h=>(by cases h),d⟩
 | k+1,b,ns,r,d,h=>by
   rw[jm] at h
   split at h
   ·cases h
   ·rename_i n s f
    obtain⟨q,c,a⟩:=Option.map_eq_some_iff.1 h
    injection a with a h3
    obtain⟨j,i,g⟩:=k9a d f
    obtain⟨l,p,o⟩:=zTa (ns:=q.1) (r:=q.2) g c
    subst a h3
    refine⟨by rw[j,l,List.flatMap_cons,zp],λm e=>?_,o⟩
    rcases zE.1 e with rfl|e
    ·exact i
    ·exact p m e
def flgs:List Int->List Flg
 | a::b::l=>⟨a,b⟩::flgs l
 | _=>[]
theorem Kua:∀F:List Flg,flgs (wo F)=F
 | []=>rfl
 | f::F=>by
   have:=Kua F
   unfold wo at*
   rw[List.flatMap_cons]
   exact congrArg (λl=>f::l) this
theorem W3:∀ {k:Nat} {l:List Int},l.length=2*k->wo (flgs l)=l/\(flgs l).length=k
 | 0,[],_=>⟨rfl,rfl⟩
 | k+1,a::b::l,h=>by
   obtain⟨d,c⟩:=W3 (k:=k) (l:=l) (by simp only[List.length_cons] at h;omega)
   constructor
   ·show [a,b]++wo (flgs l)=_
    rw[d];rfl
   ·show(flgs l).length+1=_
    rw[c]
def wT(ns:List Int):RowV:=
 ⟨ns.getD 0 0,ns.getD 1 0,ns.getD 2 0,λj=>if j<7 then ns.getD (3+j) 0 else 0,λj=>if j<7 then ns.getD (10+j) 0 else 0,(ns.getD 17 0,ns.getD 18 0),(ns.getD 19 0,ns.getD 20 0),ns.getD 21 0,wr (ns.getD 22 0 - 1),ns.getD 23 0,ns.getD 24 0,ns.getD 25 0⟩
def xN(b:List Int):Option ((RowV × List Flg) × List Int):=
 (jm 26 b).bind λq=>(wZ q.2).bind λm=>(jm (2*m.1.toNat) m.2).bind λf=>if kC (wT q.1) (flgs f.1) then some ((wT q.1,flgs f.1),f.2) else none
def jp:Nat->List Int->Option (List (RowV × List Flg) × List Int)
 | 0,b=>some ([],b)
 | k+1,b=>(xN b).bind λq=>(jp k q.2).map λz=>(q.1::z.1,z.2)
def wU(b:List Int):Option (List (RowV × List Flg)):=(wZ b).bind λm=>(jp m.1.toNat m.2).bind λz=>if z.2=[] then some z.1 else none
theorem vga{n:Nat}{rest:List Int}(h:n<=rest.length)(a:n<=9223372036854775807):wZ (jb (n:Int)++rest)=some ((n:Int),rest):=by
 unfold wZ
 rw[Kfa (by omega) (by omega)]
 simp only
 rw[if_pos (by omega)]
theorem WAa(n:Int):1<=(jb n).length:=by rw[jb,List.length_cons];omega
theorem Vg:∀ns:List Int,ns.length<=(ns.flatMap jb).length
 | []=>zn _
 | n::ns=>by
   have:=Vg ns
   have:=WAa n
   rw[List.flatMap_cons,ze,List.length_cons]
   omega
theorem vha:∀ {ns:List Int} {q:List Int × Bool},(xY q ns).2=true->q.2=true/\∀n∈ns,0<=n
 | [],q,h=>⟨h,λ_ h=>(by cases h)⟩
 | n::ns,q,h=>by
   obtain⟨a,d⟩:=vha (ns:=ns) (q:=Zm q n) h
   have a:(q.2 && (wQ q.1 [n]).2==0)=true:=a
   rw[zl,beq_iff_eq] at a
   refine⟨a.1,λm c=>?_⟩
   rcases zE.1 c with rfl|c
   ·have b:=a.2
    unfold wQ at b
    split at b
    ·cases b
    ·rename_i e
     simpa [kJa] using e
   ·exact d m c
theorem y4a{R:RowV}{F:List Flg}(h:kC R F=true):∀n∈jq R F,0<=n:=by
 unfold kC at h
 rw[zl] at h
 exact(vha h.2).2
structure FitW (R:RowV) (F:List Flg):Prop where
 nums:∀n∈jq R F,n<=9223372036854775807
 tier:Fit R.tier
 tier1:Fit (R.tier+1)
theorem QPa{R:RowV}(d:Fit R.tier)(a:Fit (R.tier+1)):j8 (wT (j8 R))=j8 R:=by
 have c:wr (R.tier+1)=R.tier+1:=qp a
 have b:wr (wr (R.tier+1) - 1)=R.tier:=by
  rw[c]
  exact(qp (n:=R.tier+1 - 1) (by have:=d;unfold Fit at *; omega)).trans (by omega)
 have:(wT (j8 R)).tier=R.tier:=b
 unfold j8
 rw[show wr ((wT ([R.worker,R.week,R.err]++Q5 R++Z3 R++[R.earned.1,R.earned.2,R.perf.1,R.perf.2,R.elig,wr (R.tier+1),R.extra,R.supp,R.total])).tier+1)=wr (R.tier+1) from by rw[show(wT ([R.worker,R.week,R.err]++Q5 R++Z3 R++[R.earned.1,R.earned.2,R.perf.1,R.perf.2,R.elig,wr (R.tier+1),R.extra,R.supp,R.total])).tier=R.tier from b]]
 rfl
theorem WBa{R:RowV}(F:List Flg)(d:Fit R.tier)(a:Fit (R.tier+1)):yX (wT (j8 R))=yX R:=by
 have c:wr (R.tier+1)=R.tier+1:=qp a
 have b:wr (wr (R.tier+1) - 1)=R.tier:=by
  rw[c]
  exact(qp (n:=R.tier+1 - 1) (by have:=d;unfold Fit at *; omega)).trans (by omega)
 unfold yX
 rw[show(wT (j8 R)).tier=R.tier from b]
 rfl
theorem via{R:RowV}{F:List Flg}(rest:List Int)(h:kC R F=true)(f:FitW R F):xN ((jq R F).flatMap jb++rest)=some ((wT (j8 R),F),rest):=by
 have l:=y4a h
 have p:F.length<=200:=by
  unfold kC at h
  rw[zl,Bool.not_eq_true',zY,decide_eq_false_iff_not,decide_eq_false_iff_not] at h
  omega
 have a:∀n∈jq R F,vfa n:=λn b=>⟨l n b,f.nums n b⟩
 have k:(jq R F).flatMap jb++rest=(j8 R).flatMap jb++(jb (F.length:Int)++((wo F).flatMap jb++rest)):=by
  unfold jq
  simp only[List.flatMap_append,List.flatMap_cons,List.flatMap_nil,zF,zp]
 have m:∀n∈j8 R,vfa n:=λn b=>a n (by unfold jq;simp[b])
 have g:∀n∈wo F,vfa n:=λn b=>a n (by unfold jq;simp[b])
 have c:=Xo F
 have o:=Vg (wo F)
 have d:=V6 (jb (F.length:Int)++((wo F).flatMap jb++rest)) m
 rw[ZM] at d
 have i:=vga (n:=F.length) (rest:=(wo F).flatMap jb++rest) (by rw[ze];omega) (by omega)
 have e:=V6 rest g
 rw[c] at e
 unfold xN
 rw[k,d]
 simp only[Option.bind_some,i,Int.toNat_natCast,e,Kua]
 rw[if_pos]
 have j:jq (wT (j8 R)) F=jq R F:=by unfold jq;rw[QPa f.tier f.tier1]
 unfold kC at h⊢
 rw[j]
 exact h
theorem zUa:∀W:List (RowV × List Flg),26*W.length<=(xr W).length
 | []=>zn _
 | q::W=>by
   have:=zUa W
   unfold xr at*
   have a:26<=(jq q.1 q.2).length:=by
    unfold jq
    rw[ze,ze,ZM]
    omega
   rw[List.flatMap_cons,ze,List.length_cons]
   omega
def y5a(q:RowV × List Flg):RowV × List Flg:=(wT (j8 q.1),q.2)
theorem Vh:∀ {W:List (RowV × List Flg)} (rest:List Int),okW W=true->(∀q∈W,FitW q.1 q.2)->jp W.length ((xr W).flatMap jb++rest)=some (W.map y5a,rest)
 | [],_,_,_=>rfl
 | q::W,rest,h,f=>by
   unfold okW at h
   rw[List.all_cons,zl] at h
   have a:(xr (q::W)).flatMap jb++rest=(jq q.1 q.2).flatMap jb++((xr W).flatMap jb++rest):=by
    unfold xr
    rw[List.flatMap_cons,List.flatMap_append,zp]
   rw[a,List.length_cons,jp,via _ h.1 (f q (.head _))]
   simp only[Option.bind_some]
   rw[Vh rest (by unfold okW;exact h.2) λz b=>f z (.tail _ b)]
   rfl
theorem zIb{W:List (RowV × List Flg)}(h:okW W=true)(f:∀q∈W,FitW q.1 q.2)(i:W.length<=9223372036854775807):(jZ W).2=0/\wU (jZ W).1=some (W.map y5a):=by
 have g:∀n∈[(W.length:Int)]++xr W,0<=n:=λn a=>by
  rcases zJ.1 a with a|a
  ·rw[zN.1 a];omega
  ·unfold xr at a
   obtain⟨q,c,a⟩:=List.mem_flatMap.1 a
   unfold okW at h
   exact y4a (zR.1 h q c) n a
 have e:jZ W=(([(W.length:Int)]++xr W).flatMap jb,0):=by
  unfold jZ
  rw[if_pos h,Vf g]
  rfl
 rw[e]
 refine⟨rfl,?_⟩
 have k:=zUa W
 have j:=Vg (xr W)
 have d:([(W.length:Int)]++xr W).flatMap jb=jb (W.length:Int)++(xr W).flatMap jb:=by
  rw[List.flatMap_append,List.flatMap_cons,List.flatMap_nil,zF]
 have b:=Vh (W:=W) [] h f
 rw[zF] at b
 unfold wU
 simp only[d]
 rw[vga (by omega) i]
 simp only[Option.bind_some,Int.toNat_natCast,b]
 rfl
theorem w5a{ns:List Int}(v:ns.length=26)(t:∀n∈ns,vfa n):j8 (wT ns)=ns:=by
 match ns,v with
 | [a0,a1,a2,a3,a4,a5,r,q,p,a9,a,g,h,i,k,m,j,l,f,b,a20,c,a22,a23,d,a25],_=>
   have o:=t a22 (by simp)
   unfold vfa at o
   have u:wr (a22 - 1)=a22 - 1:=qp (by unfold Fit;omega)
   have s:wr (wr (a22 - 1)+1)=a22:=by
    rw[u]
    exact(qp (n:=a22 - 1+1) (by unfold Fit;omega)).trans (by omega)
   have e:j8 (wT [a0,a1,a2,a3,a4,a5,r,q,p,a9,a,g,h,i,k,m,j,l,f,b,a20,c,a22,a23,d,a25])=[a0,a1,a2,a3,a4,a5,r,q,p,a9,a,g,h,i,k,m,j,l,f,b,a20,c,wr (wr (a22 - 1)+1),a23,d,a25]:=rfl
   rw[e,s]
theorem Vi{b:List Int}{n:Int}{r:List Int}(f:By b)(h:wZ b=some (n,r)):b=jb n++r/\vfa n/\By r/\n<=(r.length:Int):=by
 unfold wZ at h
 split at h
 ·rename_i n' i g
  split at h
  ·rename_i a
   injection h with h
   injection h with h1 h2
   subst h1 h2
   obtain⟨e,c,d⟩:=k9a f g
   exact⟨e,c,d,a⟩
  ·cases h
 ·cases h
theorem w6a{b:List Int}{q:RowV × List Flg}{r:List Int}(k:By b)(h:xN b=some (q,r)):kC q.1 q.2=true/\b=(jq q.1 q.2).flatMap jb++r/\By r:=by
 unfold xN at h
 obtain⟨⟨ns,b1⟩,f,h⟩:=Option.bind_eq_some_iff.1 h
 obtain⟨⟨m,b2⟩,d,h⟩:=Option.bind_eq_some_iff.1 h
 obtain⟨⟨g,b3⟩,a,h⟩:=Option.bind_eq_some_iff.1 h
 simp only at d a h
 split at h
 ·rename_i c
  injection h with h
  injection h with e1 e2
  subst e1 e2
  obtain⟨o,s,p⟩:=zTa k f
  obtain⟨n,i,j,_⟩:=Vi p d
  obtain⟨k1,k2,k3⟩:=zTa j a
  obtain⟨l,l2⟩:=W3 (xS a)
  refine⟨c,?_,k3⟩
  have e:jq (wT ns) (flgs g)=ns++[m]++g:=by
   unfold jq
   rw[w5a (xS f) s,l,l2,kK i.1]
  rw[e,o,n,k1]
  simp only[List.flatMap_append,List.flatMap_cons,List.flatMap_nil,zF,zp]
 ·cases h
theorem J4:∀ {k:Nat} {b:List Int} {W:List (RowV × List Flg)} {r:List Int},By b->jp k b=some (W,r)->W.length=k/\okW W=true/\b=(xr W).flatMap jb++r/\By r
 | 0,b,W,r,d,h=>by
   injection h with h
   injection h with c a
   subst c a
   exact⟨rfl,rfl,rfl,d⟩
 | k+1,b,W,r,d,h=>by
   rw[jp] at h
   obtain⟨⟨q,b1⟩,c,h⟩:=Option.bind_eq_some_iff.1 h
   obtain⟨⟨Z,n⟩,a,h⟩:=Option.map_eq_some_iff.1 h
   injection h with e1 e2
   simp only at a e2
   subst e1 e2
   obtain⟨j,m,l⟩:=w6a d c
   obtain⟨g,e,f,i⟩:=J4 l a
   refine⟨by rw[List.length_cons,g],by unfold okW at *; rw[List.all_cons,j,e];rfl,?_,i⟩
   rw[m,f]
   unfold xr
   rw[List.flatMap_cons,List.flatMap_append,zp]
theorem Kva{b:List Int}{W:List (RowV × List Flg)}(l:By b)(h:wU b=some W):okW W=true/\jZ W=(b,0):=by
 unfold wU at h
 obtain⟨⟨m,b1⟩,i,h⟩:=Option.bind_eq_some_iff.1 h
 obtain⟨⟨Z,r⟩,d,h⟩:=Option.bind_eq_some_iff.1 h
 simp only at d h
 split at h
 ·rename_i e
  injection h with h
  subst h e
  obtain⟨k,j,g,_⟩:=Vi l i
  obtain⟨o,c,p,_⟩:=J4 g d
  refine⟨c,?_⟩
  have s:∀n∈[(Z.length:Int)]++xr Z,0<=n:=λn a=>by
   rcases zJ.1 a with a|a
   ·rw[zN.1 a];omega
   ·unfold xr at a
    obtain⟨q,f,a⟩:=List.mem_flatMap.1 a
    unfold okW at c
    exact y4a (zR.1 c q f) n a
  have a:m=(Z.length:Int):=by rw[o,kK j.1]
  unfold jZ
  rw[if_pos c,Vf s,k,p,a,List.nil_append,List.flatMap_append,List.flatMap_cons,List.flatMap_nil,zF,zF]
 ·cases h
theorem Zn:∀(k m:Nat) (b:List Int),jp (k+m) b=(jp k b).bind λq=>(jp m q.2).map λz=>(q.1++z.1,z.2)
 | 0,m,b=>by
   rw[Nat.zero_add]
   show _=(jp m b).map λz=>([]++z.1,z.2)
   cases jp m b<;>rfl
 | k+1,m,b=>by
   rw[show k+1+m=(k+m)+1 by omega,jp,jp]
   cases xN b with
   | none=>rfl
   | some q=>
     obtain⟨q,r⟩:=q
     simp only[Option.bind_some]
     rw[Zn k m r]
     cases jp k r with
     | none=>rfl
     | some z=>
       simp only[Option.bind_some,Option.map_some]
       cases jp m z.2<;>rfl
theorem qja{k:Nat}{b:List Int}{W:List (RowV × List Flg)}{bk:List Int}{q:RowV × List Flg}{r:List Int}(h:jp k b=some (W,bk))(a:xN bk=some (q,r)):jp (k+1) b=some (W++[q],r):=by
 rw[Zn,h]
 simp only[Option.bind_some,jp,a,Option.map_some]
theorem yz{k n:Nat}{b:List Int}{W:List (RowV × List Flg)}{bk:List Int}(h:jp k b=some (W,bk))(a:xN bk=none)(c:k<n):jp n b=none:=by
 rw[show n=k+1+(n - (k+1)) by omega,Zn,Zn,h]
 simp only[Option.bind_some,jp,a,Option.bind_none,Option.map_none]
theorem qka{b:List Int}(h:jm 26 b=none):xN b=none:=by
 unfold xN
 rw[h]
 rfl
theorem qla{b ns b1:List Int}(h:jm 26 b=some (ns,b1))(a:wZ b1=none):xN b=none:=by
 unfold xN
 rw[h]
 simp only[Option.bind_some,a,Option.bind_none]
theorem qma{b ns b1 b2:List Int}{m:Int}(h:jm 26 b=some (ns,b1))(a:wZ b1=some (m,b2))(c:jm (2*m.toNat) b2=none):xN b=none:=by
 unfold xN
 rw[h]
 simp only[Option.bind_some,a,c,Option.bind_none]
theorem xba{b ns b1 b2 a r:List Int}{m:Int}(h:jm 26 b=some (ns,b1))(c:wZ b1=some (m,b2))(d:jm (2*m.toNat) b2=some (a,r)):xN b=if kC (wT ns) (flgs a) then some ((wT ns,flgs a),r) else none:=by
 unfold xN
 rw[h]
 simp only[Option.bind_some,c,d]
theorem w7a{b b1 r:List Int}{n:Nat}{W:List (RowV × List Flg)}(h:wZ b=some ((n:Int),b1))(a:jp n b1=some (W,r)):wU b=if r=[] then some W else none:=by
 unfold wU
 rw[h]
 simp only[Option.bind_some,Int.toNat_natCast,a]
theorem Ja{b b1:List Int}{n:Nat}(h:wZ b=some ((n:Int),b1))(a:jp n b1=none):wU b=none:=by
 unfold wU
 rw[h]
 simp only[Option.bind_some,Int.toNat_natCast,a,Option.bind_none]
end Go.Proofs.YtigdlmpjijhpaaaGreat.Ax
namespace Go.Proofs.YtigdlmpjijhpaaaGreat.Ax
open Go Go.RowKit Go.ChangeShapes Go.WideShapes
section
variable {H:Type} {enc:TypeId × Value->H} {P:Program} {w:World} {base:Nat} {held:Bool}
end
def zzb(ns:List Int):RowV:=
 ⟨km ns 0,km ns 1,km ns 2,λj=>if j<7 then km ns (3+j) else 0,λj=>if j<7 then km ns (10+j) else 0,(km ns 17,km ns 18),(km ns 19,km ns 20),km ns 21,km ns 22,km ns 23,km ns 24,km ns 25⟩
structure RawW (q:RwA):Prop where
 sl:SlOf [] q.2.1 2 (q.2.2.map xy)
 raw:∃ns:List Int,q.1=zzb ns/\∀n∈ns,Fit n
 flg:∀f∈q.2.2,Fit f.id/\Fit f.kind
section
variable {H:Type} {enc:TypeId × Value->H} {w:World} {base:Nat} {held:Bool}
end
end Go.Proofs.YtigdlmpjijhpaaaGreat.Ax
namespace Go.Proofs.YtigdlmpjijhpaaaGreat.Ax
open Go Go.Proofs
theorem y6a(n:Int):0<=IntKind.wrap .u8 n/\IntKind.wrap .u8 n<256:=by
 rw[IntKind.wrap_u8]
 omega
theorem y7a(n:Int):∀k,By (xC n k)
 | 0=>λc a=>by cases a
 | k+1=>λc a=>by
   rcases zE.1 a with rfl|a
   ·exact y6a _
   ·exact y7a n k c a
theorem Kwa(n:Int):By (jb n):=λc a=>by
 rcases zE.1 a with rfl|a
 ·exact y6a _
 ·exact y7a n _ c a
theorem WCa(ns:List Int):By (ns.flatMap jb):=λc a=>by
 obtain⟨n,_,a⟩:=List.mem_flatMap.1 a
 exact Kwa n c a
theorem y8a:∀ns:List Int,(ns.flatMap jb).length<=9*ns.length
 | []=>zn _
 | n::ns=>by
   have:=y8a ns
   have:=Q2 n
   rw[List.flatMap_cons,ze,List.length_cons]
   omega
theorem zAb{W:List (RowV × List Flg)}(h:okW W=true):∀n∈[(W.length:Int)]++xr W,0<=n:=λn a=>by
 rcases zJ.1 a with a|a
 ·rw[zN.1 a];omega
 ·unfold xr at a
  obtain⟨q,b,a⟩:=List.mem_flatMap.1 a
  unfold okW at h
  exact y4a (zR.1 h q b) n a
theorem V7{W:List (RowV × List Flg)}(h:okW W=true):jZ W=(jb (W.length:Int)++(xr W).flatMap jb,0):=by
 unfold jZ
 rw[if_pos h,Vf (zAb h),List.flatMap_append,List.flatMap_cons,List.flatMap_nil,zF,List.nil_append]
theorem zVa{W:List (RowV × List Flg)}(h:okW W=false):jZ W=([],200):=by
 unfold jZ
 rw[h]
 rfl
theorem zJb(W:List (RowV × List Flg)):By (jZ W).1:=by
 cases h:okW W
 ·rw[zVa h]
  exact λc a=>by cases a
 ·rw[V7 h]
  intro c a
  rcases zJ.1 a with a|a
  ·exact Kwa _ c a
  ·exact WCa _ c a
theorem zBb(W:List (RowV × List Flg)):(jZ W).1.length<=9+3843*W.length:=by
 cases h:okW W
 ·rw[zVa h]
  exact Nat.zero_le _
 ·rw[V7 h,ze]
  have:=Q2 (W.length:Int)
  have:=y8a (xr W)
  have:=VS W h
  omega
theorem zKb{q:RowV × List Flg}(b:Fit q.1.tier)(a:Fit (q.1.tier+1)):xP (y5a q)=xP q:=by
 unfold xP y5a
 rw[WBa q.2 b a]
theorem xca{b r:List Int}{q:RowV × List Flg}(h:xN b=some (q,r)):Fit q.1.tier:=by
 unfold xN at h
 obtain⟨⟨ns,b1⟩,e,h⟩:=Option.bind_eq_some_iff.1 h
 obtain⟨⟨m,b2⟩,d,h⟩:=Option.bind_eq_some_iff.1 h
 obtain⟨⟨a,b3⟩,c,h⟩:=Option.bind_eq_some_iff.1 h
 simp only at h
 split at h
 ·injection h with h
  injection h with e1 e2
  subst e1
  exact ku _
 ·cases h
theorem XJ:∀ {k:Nat} {b r:List Int} {W:List (RowV × List Flg)},jp k b=some (W,r)->∀q∈W,Fit q.1.tier
 | 0,b,r,W,h,q,a=>by
   injection h with h
   injection h with c d
   subst c
   cases a
 | k+1,b,r,W,h,q,a=>by
   rw[jp] at h
   obtain⟨⟨e,b1⟩,c,h⟩:=Option.bind_eq_some_iff.1 h
   obtain⟨⟨Z,f⟩,d,h⟩:=Option.map_eq_some_iff.1 h
   injection h with e1 e2
   simp only at e1
   subst e1
   rcases zE.1 a with rfl|a
   ·exact xca c
   ·exact XJ d q a
theorem zLb{b:List Int}{W:List (RowV × List Flg)}(g:By b)(h:wU b=some W):(∀q∈W,Fit q.1.tier/\q.2.length<524288)/\26*W.length<=b.length:=by
 obtain⟨a,c⟩:=Kva g h
 constructor
 ·intro q d
  constructor
  ·unfold wU at h
   obtain⟨⟨m,b1⟩,i,h⟩:=Option.bind_eq_some_iff.1 h
   obtain⟨⟨Z,r⟩,f,h⟩:=Option.bind_eq_some_iff.1 h
   simp only at f h
   split at h
   ·injection h with h
    subst h
    exact XJ f q d
   ·cases h
  ·unfold okW at a
   have a:=zR.1 a q d
   unfold kC at a
   rw[zl,Bool.not_eq_true',zY,decide_eq_false_iff_not,decide_eq_false_iff_not] at a
   omega
 ·rw[V7 a] at c
  injection c with c _
  have e:=congrArg List.length c
  rw[ze] at e
  have:=Vg (xr W)
  have:=zUa W
  omega
def upW(W:List (RowV × List Flg)):List RwA:=W.map λp=>(p.1,.sl 2 (p.2.map xy),p.2)
theorem jJb(W:List (RowV × List Flg)):kF (upW W)=W:=by unfold kF upW;rw[vi];exact List.map_id _
theorem jKb(W:List (RowV × List Flg)):((upW W).map λq=>xO q.1 q.2.1)=W.map xP:=by unfold upW;rw[vi];rfl
open Go.RowKit
set_option maxRecDepth 100000
structure NumI (h H:List Ob) (s:Setup) (l:List Int) (st b:Nat):Prop where
 pre:Pre h H
 box:H[h.length]? =some (.box 30 (qd s (frA s)))
 row:H[h.length+1]? =some (.row 3 1 (l.map qB) st)
 len:l.length=b
theorem xda{α:Type}(f:α->List AV){l:List α}{n:Nat}(h:n<l.length):(l.map f)[n]? =some (f l[n]):=by rw[zx,zi h];rfl
theorem xKb(h:List Ob)(l:List Ev)(f:l.length<1099511627776):
  ACalls Tryz.prog 106 [.sl 11 (l.map evC),.sl 11 (l.map evC)] h λr h'=>r=bl true/\h'=h:=by
 refine zj Tryz.f106 [.tmp 4] 26 rfl rfl rfl rfl rfl rfl (by decide) (⟨_,_,⟨rfl,rfl⟩,.refl⟩) λB=>?_
 simp only[go_sem,zb,bne_self_eq_false]
 refine zP (by decide) (λm T h'=>h'=h/\∃k:Nat,k<=l.length/\T 0= .sl 11 (l.map evC)/\T 1= .sl 11 (l.map evC)/\T 5=i64 k/\m=l.length - k) l.length
  ⟨rfl,0,by omega,by simp only[go_sem],by simp only[go_sem],by(simp only[go_sem]<;>rfl),rfl⟩ ?_
 rintro m T h' ⟨rfl,k,d,t0,t1,t5,rfl⟩
 simp only[go_sem,t5,t0,zb]
 refine ways (λe=>?_) (λe=>?_)
 ·have c:=dlt e
  have a:=xda evC c
  have b:(k:Int)<l.length:=by omega
  simp only[go_sem]
  refine zV rfl [] 0 [(0,0,[]),(1,0,[]),(4,0,[]),(5,0,[]),(2,0,[]),(3,0,[]),(6,0,[]),(7,0,[]),(8,0,[])] rfl (by decide) (by decide) ?_
  simp only[go_sem,t5,t0,t1,a,b,evC,zb,Int.toNat_natCast,zh,beq_self_eq_true,Bool.and_self,Bool.not_true,qD,bne_self_eq_false]
  exact⟨l.length - (k+1),by omega,k+1,by omega,qm (by omega) rfl,rfl⟩
 ·simp only[go_sem]
  refine zm ?_<;>(simp only[go_sem]<;>try rfl)
theorem zCb(h:List Ob)(l:List Flg)(f:l.length<1099511627776):
  ACalls Tryz.prog 85 [.sl 2 (l.map xy),.sl 2 (l.map xy)] h λr h'=>r=bl true/\h'=h:=by
 refine zj Tryz.f85 [.tmp 4] 26 rfl rfl rfl rfl rfl rfl (by decide) (⟨_,_,⟨rfl,rfl⟩,.refl⟩) λB=>?_
 simp only[go_sem,zb,bne_self_eq_false]
 refine zP (by decide) (λm T h'=>h'=h/\∃k:Nat,k<=l.length/\T 0= .sl 2 (l.map xy)/\T 1= .sl 2 (l.map xy)/\T 5=i64 k/\m=l.length - k) l.length
  ⟨rfl,0,by omega,by simp only[go_sem],by simp only[go_sem],by(simp only[go_sem]<;>rfl),rfl⟩ ?_
 rintro m T h' ⟨rfl,k,d,t0,t1,t5,rfl⟩
 simp only[go_sem,t5,t0,zb]
 refine ways (λe=>?_) (λe=>?_)
 ·have c:=dlt e
  have a:=xda xy c
  have b:(k:Int)<l.length:=by omega
  simp only[go_sem]
  refine zV rfl [] 0 [(0,0,[]),(1,0,[]),(4,0,[]),(5,0,[]),(2,0,[]),(3,0,[]),(6,0,[]),(7,0,[]),(8,0,[])] rfl (by decide) (by decide) ?_
  simp only[go_sem,t5,t0,t1,a,b,xy,zb,Int.toNat_natCast,zh,beq_self_eq_true,Bool.and_self,Bool.not_true,qD,bne_self_eq_false]
  exact⟨l.length - (k+1),by omega,k+1,by omega,qm (by omega) rfl,rfl⟩
 ·simp only[go_sem]
  refine zm ?_<;>(simp only[go_sem]<;>try rfl)
theorem jAb:Tryz.prog.stoodInHeld 42=false:=by kernel_rfl
theorem jBb:xu Tryz.prog 42=true:=by unfold xu;rw[Tryz.eqGuardType42,jAb];rfl
theorem jCb(h:List Ob)(R:RowV × List Flg)(a:R.2.length<1099511627776):ACalls Tryz.prog 30 [.ag (xP R),.ag (xP R)] h λr h'=>r=bl true/\h'=h:=by
 refine zj Tryz.f30 [.tmp 4] 100 rfl rfl rfl rfl rfl rfl (by decide) (⟨_,_,⟨rfl,rfl⟩,.refl⟩) λB=>?_
 simp only[go_sem,jBb,Kza,xP,yX,List.cons_append,List.nil_append,beq_self_eq_true,Bool.and_self,qD]
 refine zg (zCb _ R.2 a) ?_
 rintro _ b ⟨rfl,rfl⟩
 simp only[go_sem,xP,yX,List.cons_append,List.nil_append,beq_self_eq_true,Bool.and_self,qD]
 refine zm ?_<;>(simp only[go_sem]<;>try rfl)
theorem xGb(h:List Ob)(l:List (RowV × List Flg))(o:l.length<1099511627776)(f:∀R∈l,R.2.length<1099511627776):
  ACalls Tryz.prog 18 [.sl 27 (l.map xP),.sl 27 (l.map xP)] h λr h'=>r=bl true/\h'=h:=by
 refine zj Tryz.f18 [.tmp 4] 29 rfl rfl rfl rfl rfl rfl (by decide) (⟨_,_,⟨rfl,rfl⟩,.refl⟩) λB=>?_
 simp only[go_sem,zb,bne_self_eq_false]
 refine zP (by decide) (λm T h'=>h'=h/\∃k:Nat,k<=l.length/\T 0= .sl 27 (l.map xP)/\T 1= .sl 27 (l.map xP)/\T 5=i64 k/\m=l.length - k) l.length
  ⟨rfl,0,by omega,by simp only[go_sem],by simp only[go_sem],by(simp only[go_sem]<;>rfl),rfl⟩ ?_
 rintro m T h' ⟨rfl,k,n,t0,t1,t5,rfl⟩
 simp only[go_sem,t5,t0,zb]
 refine ways (λe=>?_) (λe=>?_)
 ·have b:=dlt e
  have a:=xda xP b
  have d:(k:Int)<l.length:=by omega
  have c:=f _ (zD b)
  obtain⟨R,g⟩:∃R,R=l[k]:=⟨_,rfl⟩
  rw[<-g] at a c
  have i:AV.ag (xP R)=AV.ag (xP R):=rfl
  simp only[go_sem]
  refine zV rfl [] 0 [(0,0,[]),(1,0,[]),(4,0,[]),(5,0,[]),(2,0,[]),(3,0,[]),(6,0,[]),(7,0,[]),(8,0,[]),(9,0,[])] rfl (by decide) (by decide) ?_
  simp only[go_sem,t5,t0,t1,a,d,xP,yX,List.cons_append,List.nil_append,zb,Int.toNat_natCast,zh]
  refine zg (jCb _ R c) ?_
  rintro _ j ⟨rfl,rfl⟩
  simp only[go_sem,t5]
  exact⟨l.length - (k+1),by omega,k+1,by omega,t0,t1,qm (by omega) rfl,rfl⟩
 ·simp only[go_sem]
  refine zm ?_<;>(simp only[go_sem]<;>try rfl)
structure AnFew (w:An):Prop where
 rows:w.rows.length<1099511627776
 flgs:∀R∈w.rows,R.2.length<1099511627776
 segs:w.segs.length<1099511627776
theorem Kxa:∀l:List Int,xja (l.map qX)=some (l.map λn=>UInt8.ofNat n.toNat)
 | []=>rfl
 | n::l=>by
   rw[List.map_cons,List.map_cons]
   show(xja (l.map qX)).map _=_
   rw[Kxa l]
   rfl
end Go.Proofs.YtigdlmpjijhpaaaGreat.Ax
namespace Go.Proofs.YtigdlmpjijhpaaaGreat.Ax
open Go Go.RowKit
def WDa(P:Program)(o:Oper)(K:Env->List Ob->Prop)(X:List PanicEntry->Env->List Ob->Prop)(T:Env)(h:List Ob):Prop:=match qN o.op with
 | some (x,args)=> @zHa P (ev T x) (evl T args) h ⟨λr h'=>K (qW T o.dst r) h'⟩ ⟨λa h'=>X a T h'⟩
 | none=>False
section
variable {P:Program} {N:Nat} {B:Bs} {ops:Array Oper} {T:Env} {h:List Ob} {o:Oper} {Q:jF}
theorem QQa{φ:Nat->Ob}(hu:Upto φ h.length)(Q:xc N o=true){K:Env->List Ob->Prop}{X:List PanicEntry->Env->List Ob->Prop}(k:WDa P o K X T h){w:World}{g:Gh}{a:Act}(r:Rel N B w g (fill φ h) a T){next:Act->World->Prop}{Y:Exit->Act->World->Prop}
  (O:∀y h' w' A,K y h'->Aft N B φ w g h y h' A w'->next A w') (R:∀C y h' w' A,X C y h'->Aft N B φ w g h y h' A w'->Y (.panic C) A w'):o.wp P a w next Y:=by
 unfold WDa at k
 split at k
 ·rename_i X args x
  have c:∃l j,o.op= .call ⟨.value X,l,j⟩/\l.toList=args:=by
   unfold qN at x
   split at x
   ·rename_i X' l j J
    injection x with x
    injection x with h1 h2
    subst h1
    exact⟨l,j,J,h2⟩
   ·cases x
  obtain⟨l,j,c,has⟩:=c
  subst has
  unfold zHa at k
  split at k
  ·rename_i f fs cs U
   obtain⟨k1,k2⟩:=k
   have G:=jL r.t X
   rw[U] at G
   obtain⟨us,vs,S,W,H⟩:=G
   have u:ARs (ctx w g (fill φ h)) (fs++evl T l.toList++cs) (us.toList++l.toList.map a.eval++vs.toList):=xj (xj W (QB r.t _)) H
   have m:=k2 φ hu B.b w g _ r.ok r.hB u
   have p:∃fn,P.funcs[f]? =some fn/\fn.name≠ "runtime.NumGoroutine" /\fn.body.isSome=true:=by
    unfold XQ at k1
    split at k1
    ·rename_i fn p
     simp only[zl,bne_iff_ne,ne_eq] at k1
     exact⟨fn,p,k1.1,k1.2⟩
    ·cases k1
   obtain⟨fn,M,V,L⟩:=p
   have f5:(fn.name== "runtime.NumGoroutine")=false:=by simpa using V
   have Z:fn.body.isNone=false:=by cases hb:fn.body<;>simp[hb] at L⊢
   have z:(execOp a.eval o).run P w= .ok (.enter f (us.toList++l.toList.map a.eval++vs.toList).toArray) w:=by
    obtain⟨dst,op,type,pos,after,guard⟩:=o
    simp only at c
    subst c
    simp only[execOp,resolve,S,Deferred.ofValue,Sem.run_bind,Sem.run_pure,Result.andThen_ok,invoke,callFunc,run_program,M,Z,f5,Bool.false_eq_true,if_false]
    simp
   unfold Oper.wp
   rw[z]
   refine Calls.mono m λe w' q=>?_
   rcases q with⟨v,rr,h',g',F,D,E,s,I⟩|⟨C,h',g',F,D,E,s⟩
   ·subst F
    exact O _ _ _ _ D ⟨g',E,xU r s I Q,s⟩
   ·subst F
    exact R _ _ _ _ _ D ⟨g',E,⟨s.ok,s.size,λi=>AR.le s.le _ _ (r.t i),r.d,r.n⟩,s⟩
  ·exact k.elim
 ·exact k.elim
theorem QRa{dst:Option Tmp}{x:Operand}{args:Array Operand}{a:Array TypeId}{ty:TypeId}{pos:String}{after:Array Edge}{b:Option (Nat × Bool)}{K:Env->List Ob->Prop}{X:List PanicEntry->Env->List Ob->Prop}:
  WDa P ⟨dst,.call ⟨.value x,args,a⟩,ty,pos,after,b⟩ K X T h= @zHa P (ev T x) (evl T args.toList) h ⟨λr h'=>K (qW T dst r) h'⟩ ⟨λc h'=>X c T h'⟩:=id rfl
theorem vja{id:Nat}(l:List Oper)(o:Oper)(l2:List Oper)(u:ops.toList=l++o::l2)(A:o.guard=none)(d:(ops.toList.all (xc N))=true)(k:wpR P ops (WDa P o (λT h=>wpR P ops (Q .normal) l2 T h) λm=>Q (.panic m)) l T h):AWp P N B (.region id ops false) Q T h:=λφ i w g a r=>by
 rw[u,List.all_append,zl,List.all_cons,zl] at d
 refine(wpIn_wide (n:=0)).1 (wpIn_region ?_)
 rw[List.range_eq_range', <-qH,wpOpsIn_eq_wpListIn ops.toList 0 (by simp),u]
 refine Va l d.1 i (Wf _ k) r λH h' w' K k' q=>?_
 unfold wpListIn
 rw[if_pos (by simp[Region.wanted,A])]
 have b:=q.len
 obtain⟨g',t,C,s⟩:=q
 refine xQ 0 (QQa (i.mono b) d.2.1 k' C (λj p v a2 f c=>?_) λm j p v a2 f c=>⟨j,p,f,c.trans t s⟩)
 have e:=c.len
 obtain⟨J,y,E,G⟩:=c
 exact yc l2 d.2.2 (i.mono (Nat.le_trans b e)) (Wf _ f) E λz x I a3 F D=>⟨z,x,F,(D.trans y G).trans t s⟩
end
attribute [go_sem] QRa
end Go.Proofs.YtigdlmpjijhpaaaGreat.Ax
namespace Go.Proofs.YtigdlmpjijhpaaaGreat.Ax
open Go Go.Proofs
set_option maxRecDepth 100000
abbrev yQ(cs:List AV):Ob:= .box 45 cs
def setR(cs:List AV)(o:Nat):List Int->List AV
 | []=>cs
 | t::a=>setR (cs.set o (i64 t)) (o+1) a
theorem J5:∀ {a:List Int} {cs:List AV} {o:Nat},(setR cs o a).length=cs.length
 | [],_,_=>rfl
 | t::a,cs,o=>by rw[setR,J5,zz]
theorem V8:∀ {b:List Int} {cs:List AV} {o:Nat} {t:Int},setR cs o (b++[t])=(setR cs o b).set (o+b.length) (i64 t)
 | [],cs,o,t=>rfl
 | a::b,cs,o,t=>by
   rw[List.cons_append,setR,setR,V8,List.length_cons,show o+1+b.length=o+(b.length+1) by omega]
structure StR (h:List Ob) (j i:Nat) (cs:List AV) (b:List Int) (H:List Ob):Prop where
 eq:∃L,H=((h.set j (yQ cs)).set i (we (.sl 1 (b.map qX))))++L/\NoRes L
section
variable {h H:List Ob} {j i:Nat} {cs:List AV} {b:List Int}
theorem StR.app(k:StR h j i cs b H){M:List Ob}(a:NoRes M):StR h j i cs b (H++M):=by
 obtain⟨L,k1,k2⟩:=k.eq
 exact⟨L++M,by rw[k1,zp],k2.app a⟩
theorem StR.row(k:StR h j i cs b H)(a:j≠i)(c:j<h.length):H[j]? =some (yQ cs):=by
 obtain⟨L,k1,k2⟩:=k.eq
 rw[k1]
 exact zf (by rw[zc (Ne.symm a),zo c])
theorem StR.eye(k:StR h j i cs b H)(hi:i<h.length):H[i]? =some (we (.sl 1 (b.map qX))):=by
 obtain⟨L,k1,k2⟩:=k.eq
 rw[k1]
 exact zf (zo (by rw[zz];exact hi))
theorem StR.setj(k:StR h j i cs b H)(a:j≠i)(c:j<h.length)(cs':List AV):StR h j i cs' b (H.set j (yQ cs')):=by
 obtain⟨L,k1,k2⟩:=k.eq
 refine⟨L,?_,k2⟩
 rw[k1,qb _ _ (by rw[zz,zz];exact c),List.set_comm _ _ (Ne.symm a),zU]
theorem StR.seti(k:StR h j i cs b H)(hi:i<h.length)(a:List Int):StR h j i cs a (H.set i (we (.sl 1 (a.map qX)))):=by
 obtain⟨L,k1,k2⟩:=k.eq
 refine⟨L,?_,k2⟩
 rw[k1,qb _ _ (by rw[zz,zz];exact hi),zU]
theorem StR.setL(k:StR h j i cs b H){m:Nat}(d:h.length<=m){o:Ob}(c:o.isRes=false):StR h j i cs b (H.set m o):=by
 obtain⟨L,k1,k2⟩:=k.eq
 refine⟨L.set (m - h.length) o,?_,λq a=>?_⟩
 ·rw[k1,zL _ _ (by rw[zz,zz];exact d),zz,zz]
 ·rcases List.mem_or_eq_of_mem_set a with a|rfl
  ·exact k2 q a
  ·exact c
theorem StR.len(k:StR h j i cs b H):h.length<=H.length:=by
 obtain⟨L,k1,_⟩:=k.eq
 rw[k1,ze,zz,zz]
 omega
def FrR(j i:Nat)(h h':List Ob):Prop:=∀(m:Nat) (o:Ob),m≠i->m≠j->h[m]? =some o->h'[m]? =some o
theorem StR.fr(k:StR h j i cs b H):FrR j i h H:=λm o d c a=>by
 obtain⟨L,k1,_⟩:=k.eq
 rw[k1]
 exact zf (by rw[zc (Ne.symm d),zc (Ne.symm c)];exact a)
end
theorem zWa{h H:List Ob}{j i:Nat}{cs:List AV}{b:List Int}(k:StR h j i cs b H)(g:j≠i)(D:j<h.length)(hi:i<h.length)(B:cs.length=27)(F:By b)(I:b.length<1099511627776)(z:AV)(c:List (Nat × Nat))(A:SlOf H z 1 (c.map λp=>[.ptr p.1 p.2]))(u:∀p∈c,(p.1=j/\p.2<27)∨(h.length<=p.1/\∃ty cs,H[p.1]? =some (.box ty cs)/\p.2<cs.length))(w:c≠[])(s:c.length<1048576):
  PCalls Tryz.prog 50 [.ptr i 0,z] H (λr h'=>r= .tup []/\∃ns t,jm c.length b=some (ns,t)/\h'=(y6 H c ns).set i (we (.sl 1 (t.map qX)))) (λx h'=>x=[Kk]/\jm c.length b=none/\FrR j i h h'):=by
 have l:∀p∈c,p.1≠i:=λp f=>by
  rcases u p f with a|a
  ·rw[a.1];exact g
  ·omega
 have d:=jda (i:=i) (b:=b) (H:=H) l w
 refine(Kja H i _ z b c (k.eye hi) ⟨rfl,λ_=>rfl⟩ F I A (λp f=>⟨l p f,?_⟩) s).mono ?_ ?_
 ·rcases u p f with⟨a,n⟩|⟨_,n⟩
  ·exact⟨_,cs,by rw[a];exact k.row g D,by rw[B];exact n⟩
  ·exact n
 ·rintro r h' ⟨rfl,t,a,_⟩
  rw[d] at a
  obtain⟨q,G,v⟩:=Option.map_eq_some_iff.1 a
  injection v with v q3
  subst v q3
  exact⟨rfl,q.1,q.2,G,rfl⟩
 ·rintro x h' ⟨rfl,a,n⟩
  rw[d] at a
  refine⟨rfl,Option.map_eq_none_iff.1 a,λm o y E z3=>n m o y (λp f e=>?_) (k.fr m o y E z3)⟩
  rcases u p f with⟨C,_⟩|⟨C,_⟩
  ·omega
  ·have:=(zd.1 z3).1
   omega
