/-
  Joined.
-/
import Derived.Test.YtigdlmpjijhpaaaGreatK39
import Derived.Test.YtigdlmpjijhpaaaGreatK36
import Derived.Test.YtigdlmpjijhpaaaGreatK37
import Derived.Test.YtigdlmpjijhpaaaGreatK13
import Derived.WideKeyRuns
import Derived.WideKeyEntry
import Derived.Maps.RangeRun
import Derived.Test.YtigdlmpjijhpaaaGreatK10
import Derived.Test.YtigdlmpjijhpaaaGreatK35
import Derived.Test.YtigdlmpjijhpaaaGreatK33
import Derived.Test.YtigdlmpjijhpaaaGreatK34
set_option linter.unusedSimpArgs false
set_option linter.unusedVariables false
namespace Go.Proofs.YtigdlmpjijhpaaaGreat.Ax
open Go Go.Proofs
set_option maxRecDepth 100000
theorem KF {P:Program} {f:FuncId} {ar:List AV} {h:List Ob} {u:AV} {e:Nat} {rows:List (List AV)} (q:0<e) (d:u.lt h.length=true) (t:qb h.length rows=true) (c:ACalls P f ar h λr h'=>∃L x,h'=h++L/\NoRes L/\r= .tup [x,u]/\New h e x rows L):ACalls P f ar h λr h'=>r= .tup [.sl e rows,u]/\h'=h:=by
 refine ⟨c.1,⟨_,_,⟨rfl,rfl⟩,.refl⟩,λφ k B w g vs l hB b=>?_⟩
 refine (c.2.2 φ k B w g vs l hB b).mono λD w' ⟨v,r,h',g',n,⟨L,x,o,_,A,n1⟩,_,i,m⟩=>?_
 subst o A
 rw[jh k] at i m
 have a:(fill φ h).length=h.length:=qi
 obtain ⟨us,rfl,y,E,C,a1,z,p,s,a2,j⟩:=m
 have j:p=[]:=j
 subst j s
 refine ⟨_,_,h,g',n,⟨rfl,rfl⟩,.refl,i.drop rfl (by have:=l.ids;exact this),us,rfl,?_⟩
 rw[C]
 exact ⟨y,_,rfl,Q0 i.ok q a1 (n1 _ a) (λid hid=>by rw[a];exact n1.root id hid) (by rw[a];exact t),z,[],rfl,AR.less (km w' g' (fill φ h) L) _ _ (by rw[qi];exact d) a2,rfl⟩
def jE (n:Int):List AV:=[.v (.int .u8 n)]
theorem Wb {n:Nat}:∀l:List Int,qb n (l.map jE)=true
 | []=>rfl
 | s::l=>by
   rw[List.map_cons,qb,Wb l];rfl
theorem vLa (l:List Int):((l.map jE).all λr=>r.length==1 && r.all AV.one)=true:=by
 rw[List.all_eq_true]
 intro r a
 obtain ⟨s,_,rfl⟩:=List.mem_map.1 a
 rfl
def Za (n:Int) (j:Nat):Int:=IntKind.wrap .u8 (n.fdiv (2 ^ min (8*j) 64))
def ka (n:Int):Nat->List Int
 | 0=>[]
 | k+1=>Za n k::ka n k
theorem vB (n:Int):∀k,(ka n k).length=k
 | 0=>rfl
 | k+1=>by rw[ka,List.length_cons,vB n k]
theorem q5a (n:Int):0<=qN n/\qN n<=8:=by
 have a:0<=IntKind.wrap .u64 n/\IntKind.wrap .u64 n<=18446744073709551615:=by
  rw[IntKind.wrap_u64];omega
 have:=Go.Lib.bitLen_le (IntKind.wrap .u64 n).toNat 64 (by omega) (by omega)
 unfold qN
 rw[zF (n:=(Go.Lib.bitLen (IntKind.wrap .u64 n).toNat:Int)+7) (by unfold Fit;omega),Int.tdiv_eq_ediv_of_nonneg (by omega),zF (by unfold Fit;omega)]
 omega
def vX (n:Int):List Int:=IntKind.wrap .u8 (qN n)::ka n (qN n).toNat
theorem Ko (n:Int):(vX n).length<=9:=by
 have:=q5a n
 rw[vX,List.length_cons,vB];omega
def vMa (l:List Int):Bool:=l.any λn=>decide (n<0)
def vl (b ns:List Int):List Int × Int:=if vMa ns then ([],50) else (b++ns.flatMap vX,0)
theorem ZUa (h:List Ob) (x y:AV) (b ns:List Int) (hx:SlOf h x 1 (b.map jE)) (hy:SlOf h y 1 (ns.map zJ)) (hb:b.length<1073741824) (hn:ns.length<1048576):
  ACalls Tryz.prog 24 [x,y] h λr h'=>∃L z,h'=h++L/\NoRes L/\r= .tup [z,i64 (vl b ns).2]/\New h 1 z ((vl b ns).1.map jE) L:=by
 have hex:∃r h',(∃L z,h'=h++L/\NoRes L/\r=AV.tup [z,i64 (vl b ns).2]/\New h 1 z ((vl b ns).1.map jE) L)/\ResK h h':=
  ⟨_,_,⟨[],.sl 1 _,rfl,jN,rfl,λ_ _=>⟨rfl,λ_=>rfl⟩⟩,zW⟩
 refine vu (N:=41) (rs:=[.tmp 4,.tmp 5]) (fn:=Tryz.f24) rfl rfl rfl rfl (Nat.le_of_ble_eq_true rfl) rfl (hex) λB=>?_
 refine qG (by decide) ?_
 simp only[go_sem]
 refine vk (J1 (λT' h'=>Pre h h'/\OwnS h h' 5 1 (T' 6) (b.map jE)/\T' 1=y) (by decide) ?_ ?_)
 ·simp only[go_sem]
  refine zd (qfa _ x _ hx (by rw[List.length_map];omega) (vLa b)) ?_
  rintro r h1 hr
  rcases hr with ⟨q1,rfl,rfl⟩ | ⟨rfl,rfl⟩
  ·simp only[go_sem]
   exact ⟨.refl,.inl ⟨rfl,q1⟩⟩
  ·simp only[go_sem]
   exact ⟨⟨_,rfl,zj rfl⟩,.inr ⟨h.length,1,Nat.le_refl _,rfl,by rw[zm rfl];rfl⟩⟩
 ·rintro T h' ⟨c,I,t1⟩
  have C:=(c.sl hy).rows
  refine qv _ (by decide) ?_
  simp only[go_sem,t1,C,List.length_map]
  refine zk (by decide) (λm T h'=>∃i:Nat,i<=ns.length/\vMa (ns.take i)=false/\Pre h h'/\OwnS h h' 5 1 (T 6) ((b++(ns.take i).flatMap vX).map jE)/\T 12=y/\T 13=i64 ns.length/\T 14=i64 i/\m=ns.length - i) ns.length
   ⟨0,by omega,rfl,c,by simp only[go_sem];simpa using I,by simp only[go_sem,t1],by (simp only[go_sem]<;>rfl),by (simp only[go_sem]<;>rfl),rfl⟩ ?_
  clear c I t1 C
  rintro m T h' ⟨i,hi,s,c,I,g,o,f,rfl⟩
  simp only[go_sem,o,f]
  refine ways (λe=>?_) (λe=>?_)
  ·have F:=dlt e
   have H:=QC F
   have ο:=(c.sl hy).at (i:=i) (by rw[List.length_map];exact F)
   have C:=(c.sl hy).rows
   have η:(i:Int)<ns.length:=by omega
   have A:ns.take (i+1)=ns.take i++[ns[i]]:=(List.take_append_getElem F).symm
   have J:=List.getElem_mem F
   obtain ⟨z,hz⟩:∃z,z=ns[i]:=⟨_,rfl⟩
   rw[<-hz] at H A J
   simp only[go_sem,g,f,ο,C,H,η,List.length_map,Int.toNat_natCast,Int.natCast_nonneg]
   refine ways (λe2=>?_) (λe2=>?_)
   ·have Y:vMa ns=true:=List.any_eq_true.2 ⟨z,J,e2⟩
    have hp:vl b ns=([],50):=by unfold vl;rw[Y];rfl
    rw[hp]
    simp only[go_sem]
    obtain ⟨L,Z,hN⟩:=c
    exact ⟨_,rfl,.inl ⟨L,_,Z,hN,rfl,λh2 _=>⟨rfl,λh=>absurd rfl h⟩⟩⟩
   ·have X:decide (z<0)=false:=e2
    simp only[go_sem]
    refine zd (Jla z _) ?_
    rintro _ h2 ⟨rfl,e3⟩
    rw[e3]
    have hk:=q5a z
    obtain ⟨p,E⟩:∃p,p=b++(ns.take i).flatMap vX:=⟨_,rfl⟩
    rw[<-E] at I
    have ω:p.length<=1073741824+9*1048576:=by
     have:∀l:List Int,(l.flatMap vX).length<=9*l.length:=λl=>by
      induction l with
      | nil=>simp
      | cons n l ih=>
        have:=Ko n
        rw[List.flatMap_cons,List.length_append,List.length_cons];omega
     have:=this (ns.take i)
     rw[List.length_take] at this
     rw[E,List.length_append];omega
    have W:(p.length+1)*2<=140737488355328:=by omega
    rcases I with ⟨t6,q⟩ | ⟨id,st,u1,t6,u3⟩
    ·have hP:p=[]:=by simpa using q
     simp only[go_sem,t6]
     have a:Pre h (h'++[.row 5 1 [jE (IntKind.wrap .u8 (qN z))] 0,.row 5 1 [jE (IntKind.wrap .u8 (qN z))] 0]):=c.app (zg rfl (zj rfl))
     have d:OwnS h (h'++[.row 5 1 [jE (IntKind.wrap .u8 (qN z))] 0,.row 5 1 [jE (IntKind.wrap .u8 (qN z))] 0]) 5 1 (.tl (h'.length+1) 0) ((p++[IntKind.wrap .u8 (qN z)]).map jE):= .inr ⟨_,0,by have:=c.len;omega,rfl,by rw[zl (k:=1) rfl,hP];rfl⟩
     have ρ:((qN z).toNat:Int)=qN z:=by omega
     obtain ⟨k,K⟩:∃k,k=(qN z).toNat:=⟨_,rfl⟩
     have κ:k<=8:=by omega
     refine zk (by decide) (λm T G=>∃j:Nat,j<=k/\Pre h G/\(∃D,ka z k=D++ka z j/\OwnS h G 5 1 (T 6) ((p++[IntKind.wrap .u8 (qN z)]++D).map jE))/\T 8=i64 z/\T 9=i64 j/\T 12=y/\T 13=i64 ns.length/\T 14=i64 i/\m=j) k
      ⟨k,Nat.le_refl _,a,⟨[],rfl,by simp only[go_sem];exact d⟩,by simp only[go_sem],by rw[show ((k:Nat):Int)=qN z by omega];simp only[go_sem],by simp only[go_sem,g],by simp only[go_sem,o],by simp only[go_sem,f],rfl⟩ ?_
     clear a d g o f
     rintro m T G ⟨j,hj,a,⟨D,S,d⟩,t8,t9,g,o,f,rfl⟩
     simp only[go_sem,t9]
     refine ways (λQ=>?_) (λQ=>?_)
     ·have μ:0<m:=by have:=of_decide_eq_true Q;omega
      obtain ⟨j,rfl⟩:∃j,m=j+1:=⟨m - 1,by omega⟩
      have w1:IntKind.wrap .i64 (((j+1:Nat):Int) - 1)=(j:Int):=(zF (n:=((j+1:Nat):Int) - 1) (by unfold Fit;omega)).trans (by omega)
      have w2:IntKind.wrap .i64 (8*(j:Int))=8*(j:Int):=zF (n:=8*(j:Int)) (by unfold Fit;omega)
      have w3:0<=8*(j:Int):=by omega
      have w4:(8*(j:Int)).toNat=8*j:=by omega
      have P:ka z k=(D++[Za z j])++ka z j:=by rw[S,ka];simp
      have O:=congrArg List.length S
      rw[List.length_append,vB,vB] at O
      have R:IntKind.wrap .u8 (z.fdiv (2 ^ min (8*j) 64))=Za z j:=rfl
      have U:(p.length+(D.length+1)+1)*2<=140737488355328:=by omega
      rcases d with ⟨_,q⟩ | ⟨t,v,v1,t6,v3⟩
      ·simp at q
      ·have u:∀M,(G++M)[t]? =some (.row 5 1 ((p++[IntKind.wrap .u8 (qN z)]++D).map jE) v):=λM=>zb v3
       simp only[go_sem,t6,t8,t9,w1,w2,w3,w4,R,u,U,List.length_map]
       refine ⟨j,by omega,j,by omega,(a.app (zj rfl)).set v1 rfl,⟨D++[Za z j],P,.inr ⟨t,v+1,v1,rfl,?_⟩⟩,rfl,g,o,f,rfl⟩
       have e6:(p++IntKind.wrap .u8 (qN z)::(D++[Za z j])).map jE=(p++IntKind.wrap .u8 (qN z)::D).map jE++[jE (Za z j)]:=by simp
       rw[e6]
       exact zh (u _)
     ·have V:m=0:=by have:=of_decide_eq_false Q;omega
      subst V
      have w:p++[IntKind.wrap .u8 (qN z)]++D=b++(ns.take (i+1)).flatMap vX:=by
       rw[A,List.flatMap_append, <-List.append_assoc, <-E]
       have:D=ka z k:=by rw[S];simp[ka]
       rw[this,K]
       simp[vX]
      rw[w] at d
      simp only[go_sem,f]
      exact ⟨ns.length - (i+1),by omega,i+1,by omega,by rw[A];unfold vMa at s ⊢;rw[List.any_append,s];simp[X],a,d,g,o,zw (by omega) rfl,rfl⟩
    ·have hg:∀M,(h'++M)[id]? =some (.row 5 1 (p.map jE) st):=λM=>zb u3
     simp only[go_sem,t6,hg,W,List.length_map]
     have a:Pre h ((h'++[Ob.row 5 1 [jE (IntKind.wrap .u8 (qN z))] 0]).set id (.row 5 1 (p.map jE++[jE (IntKind.wrap .u8 (qN z))]) (st+1))):=(c.app (zj rfl)).set u1 rfl
     have d:OwnS h ((h'++[Ob.row 5 1 [jE (IntKind.wrap .u8 (qN z))] 0]).set id (.row 5 1 (p.map jE++[jE (IntKind.wrap .u8 (qN z))]) (st+1))) 5 1 (.tl id (st+1)) ((p++[IntKind.wrap .u8 (qN z)]).map jE):= .inr ⟨id,st+1,u1,rfl,by rw[List.map_append];exact zh (hg _)⟩
     have ρ:((qN z).toNat:Int)=qN z:=by omega
     obtain ⟨k,K⟩:∃k,k=(qN z).toNat:=⟨_,rfl⟩
     have κ:k<=8:=by omega
     refine zk (by decide) (λm T G=>∃j:Nat,j<=k/\Pre h G/\(∃D,ka z k=D++ka z j/\OwnS h G 5 1 (T 6) ((p++[IntKind.wrap .u8 (qN z)]++D).map jE))/\T 8=i64 z/\T 9=i64 j/\T 12=y/\T 13=i64 ns.length/\T 14=i64 i/\m=j) k
      ⟨k,Nat.le_refl _,a,⟨[],rfl,by simp only[go_sem];exact d⟩,by simp only[go_sem],by rw[show ((k:Nat):Int)=qN z by omega];simp only[go_sem],by simp only[go_sem,g],by simp only[go_sem,o],by simp only[go_sem,f],rfl⟩ ?_
     clear a d g o f
     rintro m T G ⟨j,hj,a,⟨D,S,d⟩,t8,t9,g,o,f,rfl⟩
     simp only[go_sem,t9]
     refine ways (λQ=>?_) (λQ=>?_)
     ·have μ:0<m:=by have:=of_decide_eq_true Q;omega
      obtain ⟨j,rfl⟩:∃j,m=j+1:=⟨m - 1,by omega⟩
      have w1:IntKind.wrap .i64 (((j+1:Nat):Int) - 1)=(j:Int):=(zF (n:=((j+1:Nat):Int) - 1) (by unfold Fit;omega)).trans (by omega)
      have w2:IntKind.wrap .i64 (8*(j:Int))=8*(j:Int):=zF (n:=8*(j:Int)) (by unfold Fit;omega)
      have w3:0<=8*(j:Int):=by omega
      have w4:(8*(j:Int)).toNat=8*j:=by omega
      have P:ka z k=(D++[Za z j])++ka z j:=by rw[S,ka];simp
      have O:=congrArg List.length S
      rw[List.length_append,vB,vB] at O
      have R:IntKind.wrap .u8 (z.fdiv (2 ^ min (8*j) 64))=Za z j:=rfl
      have U:(p.length+(D.length+1)+1)*2<=140737488355328:=by omega
      rcases d with ⟨_,q⟩ | ⟨t,v,v1,t6,v3⟩
      ·simp at q
      ·have u:∀M,(G++M)[t]? =some (.row 5 1 ((p++[IntKind.wrap .u8 (qN z)]++D).map jE) v):=λM=>zb v3
       simp only[go_sem,t6,t8,t9,w1,w2,w3,w4,R,u,U,List.length_map]
       refine ⟨j,by omega,j,by omega,(a.app (zj rfl)).set v1 rfl,⟨D++[Za z j],P,.inr ⟨t,v+1,v1,rfl,?_⟩⟩,rfl,g,o,f,rfl⟩
       have e6:(p++IntKind.wrap .u8 (qN z)::(D++[Za z j])).map jE=(p++IntKind.wrap .u8 (qN z)::D).map jE++[jE (Za z j)]:=by simp
       rw[e6]
       exact zh (u _)
     ·have V:m=0:=by have:=of_decide_eq_false Q;omega
      subst V
      have w:p++[IntKind.wrap .u8 (qN z)]++D=b++(ns.take (i+1)).flatMap vX:=by
       rw[A,List.flatMap_append, <-List.append_assoc, <-E]
       have:D=ka z k:=by rw[S];simp[ka]
       rw[this,K]
       simp[vX]
      rw[w] at d
      simp only[go_sem,f]
      exact ⟨ns.length - (i+1),by omega,i+1,by omega,by rw[A];unfold vMa at s ⊢;rw[List.any_append,s];simp[X],a,d,g,o,zw (by omega) rfl,rfl⟩
  ·have χ:=jk e
   have δ:i=ns.length:=by omega
   subst δ
   rw[List.take_length] at s I
   have hp:vl b ns=(b++ns.flatMap vX,0):=by unfold vl;rw[s];rfl
   rw[hp]
   simp only[go_sem]
   obtain ⟨L,Z,hN⟩:=c
   rw[Z] at I
   exact ⟨_,rfl,.inl ⟨L,_,Z,hN,rfl,I.new (Nat.le_refl _)⟩⟩
theorem Jma (h:List Ob) (x y:AV) (b ns:List Int) (a:SlOf h x 1 (b.map jE)) (e:SlOf h y 1 (ns.map zJ)) (d:b.length<1073741824) (c:ns.length<1048576):
  ACalls Tryz.prog 24 [x,y] h λr h'=>r= .tup [.sl 1 ((vl b ns).1.map jE),i64 (vl b ns).2]/\h'=h:=
 KF (by decide) rfl (Wb _) (ZUa h x y b ns a e d c)
set_option maxRecDepth 100000
def Sb (z:AV) (b:List Int):Prop:=z= .sl 1 (b.map jE)∨z= .v (.slice none 0 0)/\b=[]
theorem Sb.sl {h:List Ob} {z:AV} {b:List Int} (k:Sb z b):SlOf h z 1 (b.map jE):=by
 rcases k with rfl | ⟨rfl,rfl⟩
 ·exact ⟨rfl,λ_=>rfl⟩
 ·exact ⟨rfl,λh=>absurd rfl h⟩
theorem Sb.lt {n:Nat} {z:AV} {b:List Int} (k:Sb z b):z.lt n=true:=by
 rcases k with rfl | ⟨rfl,rfl⟩
 ·exact Wb _
 ·rfl
def Zs (q:List Int × Bool) (n:Int):List Int × Bool:=(if q.2 && (vl q.1 [n]).2==0 then (vl q.1 [n]).1 else q.1,q.2 && (vl q.1 [n]).2==0)
def jF (q:List Int × Bool) (ns:List Int):List Int × Bool:=ns.foldl Zs q
theorem YR (q:List Int × Bool) (n:Int):(Zs q n).1.length<=q.1.length+9:=by
 have:=Ko n
 have a:(vl q.1 [n]).1.length<=q.1.length+9:=by
  unfold vl
  split
  ·simp
  ·simp only[List.length_append,List.flatMap_cons,List.flatMap_nil,List.append_nil];omega
 unfold Zs
 simp only
 split
 ·exact a
 ·omega
theorem Zb:∀(ns:List Int) (q:List Int × Bool),(jF q ns).1.length<=q.1.length+9*ns.length
 | [],q=>by simp[jF]
 | n::ns,q=>by
   have b:=YR q n
   have a:=Zb ns (Zs q n)
   rw[jF,List.foldl_cons,List.length_cons]
   unfold jF at a
   omega
theorem xwa {q:List Int × Bool} {ns:List Int} {i:Nat} (h:i<ns.length):jF q (ns.take (i+1))=Zs (jF q (ns.take i)) ns[i]:=by
 unfold jF
 rw[show ns.take (i+1)=ns.take i++[ns[i]] from (List.take_append_getElem h).symm,List.foldl_append];rfl
def Jna (h:List Ob) (i:Nat) (p:AV) (n:Int):Prop:=∃id off ty a,p= .ptr id off/\id≠i/\h[id]? =some (.box ty a)/\off<a.length/\nth a off=i64 n
theorem Xka (h:List Ob) (i:Nat) (z:AV) (b:List Int) (ok:Bool) (x:AV) (d:List (AV × Int)) (N:h[i]? =some (.box 107 [z,bl ok])) (hz:Sb z b) (hx:SlOf h x 1 (d.map λp=>[p.1])) (hp:∀p∈d,Jna h i p.1 p.2) (hb:b.length<536870912) (hn:d.length<1048576):
  ACalls Tryz.prog 45 [.ptr i 0,x] h λr h'=>r= .tup []/\∃u,Sb u (jF (b,ok) (d.map (·.2))).1/\h'=h.set i (.box 107 [u,bl (jF (b,ok) (d.map (·.2))).2]):=by
 have hex:∃r h',(r=AV.tup []/\∃u,Sb u (jF (b,ok) (d.map (·.2))).1/\h'=h.set i (.box 107 [u,bl (jF (b,ok) (d.map (·.2))).2]))/\ResK h h':=
  ⟨_,_,⟨rfl,_,.inl rfl,rfl⟩,zK N rfl⟩
 refine zf Tryz.f45 [] 46 rfl rfl rfl rfl rfl rfl (by decide) (hex) λB=>?_
 simp only[go_sem,hx.rows,List.length_map]
 obtain ⟨ns,A⟩:∃ns,ns=d.map (·.2):=⟨_,rfl⟩
 have Z:ns.length=d.length:=by rw[A];simp
 have X:=λj=>Zb (ns.take j) (b,ok)
 rw[<-A]
 have D:=(List.getElem?_eq_some_iff.1 N).1
 refine zk (by decide) (λm T h'=>∃(j:Nat) (u:AV) (L:List Ob),j<=d.length/\Sb u (jF (b,ok) (ns.take j)).1/\h'=h.set i (.box 107 [u,bl (jF (b,ok) (ns.take j)).2])++L/\NoRes L/\T 0= .ptr i 0/\T 8=x/\T 9=i64 d.length/\T 10=i64 j/\m=d.length - j) d.length
  ⟨0,z,[],by omega,hz,by rw[List.append_nil];exact (zZ N).symm,jN,by simp only[go_sem],by simp only[go_sem],by (simp only[go_sem]<;>rfl),by (simp only[go_sem]<;>rfl),rfl⟩ ?_
 rintro m T h' ⟨j,y,L,hj,f,rfl,hL,t0,t8,t9,t10,rfl⟩
 simp only[go_sem,t9,t10]
 refine ways (λe=>?_) (λe=>?_)
 ·have v:=dlt e
  have t:(d.map λp=>[p.1])[j]? =some [d[j].1]:=by rw[List.getElem?_map,List.getElem?_eq_getElem v];rfl
  have U:(j:Int)<d.length:=by omega
  have a:=xwa (q:=(b,ok)) (ns:=ns) (i:=j) (by omega)
  have W:ns[j]'(by omega)=d[j].2:=by simp[A]
  obtain ⟨id,off,ty,cs,p1,p2,p3,p4,V⟩:=hp d[j] (List.getElem_mem v)
  have I:=X j
  rw[W] at a
  obtain ⟨n,δ⟩:∃n,n=d[j].2:=⟨_,rfl⟩
  obtain ⟨pt,O⟩:∃pt,pt=d[j].1:=⟨_,rfl⟩
  rw[<-δ] at a V
  rw[<-O] at t p1
  subst p1
  obtain ⟨Q,hQ⟩:∃Q,Q=jF (b,ok) (ns.take j):=⟨_,rfl⟩
  rw[<-hQ] at a f I⊢
  have η:Q.1.length<1073741824:=by
   simp only[List.length_take] at I
   omega
  obtain ⟨H,C⟩:∃H,H=h.set i (.box 107 [y,bl Q.2])++L:=⟨_,rfl⟩
  have G:H[i]? =some (.box 107 [y,bl Q.2]):=by rw[C];exact zb (List.getElem?_set_self D)
  have S:H[id]? =some (.box ty cs):=by rw[C];exact zb (by rw[List.getElem?_set_ne (Ne.symm p2)];exact p3)
  have E:SlOf H x 1 (d.map λp=>[p.1]):=by rw[C];exact (hx.keep (.setB N)).app _
  have α:∀o,H.set i o=h.set i o++L:=λo=>by rw[C,List.set_append_left _ _ (by rw[List.length_set];exact D),List.set_set]
  rw[<-C]
  clear C
  have γ:=E.rows
  have Y:=E.at (i:=j) (by rw[List.length_map];exact v)
  have c:∀M,(H++M)[i]? =some (.box 107 [y,bl Q.2]):=λM=>zb G
  have s:∀M,(H++M)[id]? =some (.box ty cs):=λM=>zb S
  have g:=(f.sl (h:=h)).one
  have k:=(f.sl (h:=h)).cells
  simp only[go_sem,t0,t8,t10,γ,Y,t,U,List.length_map,Int.toNat_natCast,Int.natCast_nonneg]
  refine zp rfl [.res] 1 [(0,0,[]),(1,0,[]),(2,0,[]),(4,0,[]),(5,0,[]),(3,0,[]),(6,0,[]),(7,0,[]),(8,0,[]),(9,0,[]),(10,0,[]),(11,0,[]),(12,0,[]),(13,0,[])] rfl (by decide) (by decide) ?_
  simp only[go_sem,t0,c,s,p4,V,g,k]
  refine zd (Jma _ y _ Q.1 [n] f.sl ⟨by rw[zP,zm rfl];rfl,λ_=>by rw[qR,zm rfl];rfl⟩ (by omega) (by show 1<1048576;decide)) ?_
  rintro _ h3 ⟨rfl,e3⟩
  rw[e3]
  obtain ⟨R,hR⟩:∃R,R=vl Q.1 [n]:=⟨_,rfl⟩
  rw[<-hR]
  simp only[go_sem,t0,c,s,p4,V,g,k]
  have F:Zs Q n=(if Q.2 && R.2==0 then R.1 else Q.1,Q.2 && R.2==0):=by rw[hR];rfl
  rw[F] at a
  have w:∀o M,((H++M).set i o)[i]? =some o:=λo M=>zh (c M)
  have l:∀o M,(H++M).set i o=h.set i o++(L++M):=λo M=>by
   rw[List.set_append_left _ _ (by exact (List.getElem?_eq_some_iff.1 G).1),α,List.append_assoc]
  cases J:Q.2
  ·rw[J] at a c
   simp only[Bool.false_and,Bool.false_eq_true,if_false] at a
   simp only[go_sem,J,zL,t0,t10,c,w,g,k]
   exact ⟨d.length - (j+1),by omega,j+1,y,L++[.row 3 1 [[i64 n]] 0],by omega,by rw[a];exact f,by rw[a];exact l _ _,hL.app (zj rfl),t8,t9,zw (by omega) rfl,rfl⟩
  ·rw[J] at a c
   simp only[Bool.true_and] at a
   cases K:R.2==0
   ·rw[K] at a
    simp only[Bool.false_eq_true,if_false] at a
    simp only[go_sem,J,K,zL,t0,t10,c,w,g,k]
    exact ⟨d.length - (j+1),by omega,j+1,y,L++[.row 3 1 [[i64 n]] 0],by omega,by rw[a];exact f,by rw[a];exact l _ _,hL.app (zj rfl),t8,t9,zw (by omega) rfl,rfl⟩
   ·rw[K] at a
    simp only[if_true] at a
    simp only[go_sem,J,K,zL,t0,t10,c,w,g,k,List.set_set]
    exact ⟨d.length - (j+1),by omega,j+1,.sl 1 (R.1.map jE),L++[.row 3 1 [[i64 n]] 0],by omega,by rw[a];exact .inl rfl,by rw[a];exact l _ _,hL.app (zj rfl),t8,t9,zw (by omega) rfl,rfl⟩
 ·have μ:=jk e
  have P:j=d.length:=by omega
  subst P
  rw[<-Z,List.take_length] at f⊢
  simp only[go_sem]
  exact ⟨.tup [],rfl,.inr ⟨_,L,rfl,by rw[List.length_set],rfl,KeepLt.set .refl rfl (by simp only[Kq,zQ,f.lt,AV.lt,Bool.and_self]),rfl,y,f,rfl⟩⟩
set_option maxRecDepth 100000
structure Cm where
 kind:Int
 fx:Fx
 worker:Int
 week:Int
 last:Int
section
variable {h:List Ob} {d:Nat} {s:Setup} {a:SA} {x c:AV} {err:Int} {rows segs bytes:AV} {q:Cm}
end
set_option maxRecDepth 100000
def frA (s:Setup):SA:=⟨.sl 3 (s.ways.map QM),.sl 4 (s.elements.map QN),.sl 2 (s.classes.map qz),.sl 2 (s.gears.map qz),.sl 1 (s.rates.map zJ),.sl 2 (s.tiers.map qz)⟩
structure SFew (s:Setup):Prop where
 w:s.ways.length<1099511627776
 e:s.elements.length<1099511627776
 c:s.classes.length<1099511627776
 g:s.gears.length<1099511627776
 r:s.rates.length<1099511627776
 t:s.tiers.length<1099511627776
abbrev yQa (s:Setup) (a:SA) (x c:AV):List AV:=[i64 s.places,a.w,i64 s.pace.1,i64 s.pace.2,a.e,a.c,a.g,i64 s.allow,i64 s.unit,i64 s.cap,i64 s.paidBreak,i64 s.autoAfter,i64 s.autoBreak,
 i64 s.dayReg,i64 s.dayOver,i64 s.weekReg,i64 s.nightFrom,i64 s.nightTo,a.r,i64 s.diff,i64 s.least,i64 s.fault,a.t,x,c]
def JI:AV:= .v (.slice none 0 0)
def zS:Setup:=⟨0,[],(0,0),[],[],[],0,0,0,0,0,0,0,0,0,0,0,[],0,0,0,[]⟩
def zA:SA:=⟨JI,JI,JI,JI,JI,JI⟩
set_option maxRecDepth 100000
theorem wR (q:List Int × Bool) (a b:List Int):jF q (a++b)=jF (jF q a) b:=by unfold jF;rw[List.foldl_append]
structure PnH (h:List Ob) (i:Nat) (Q:List Int × Bool) (H:List Ob):Prop where
 eq:∃z L,Sb z Q.1/\H=h.set i (.box 107 [z,bl Q.2])++L/\NoRes L
theorem PnH.app {h:List Ob} {i:Nat} {Q:List Int × Bool} {H:List Ob} (k:PnH h i Q H) {M:List Ob} (a:NoRes M):PnH h i Q (H++M):=by
 obtain ⟨z,L,k1,k2,k3⟩:=k.eq
 exact ⟨z,L++M,k1,by rw[k2,List.append_assoc],k3.app a⟩
theorem PnH.get {h:List Ob} {i:Nat} {Q:List Int × Bool} {H:List Ob} (k:PnH h i Q H) {m:Nat} {o:Ob} (a:m≠i) (b:h[m]? =some o):H[m]? =some o:=by
 obtain ⟨z,L,k1,k2,k3⟩:=k.eq
 rw[k2]
 exact zb (by rw[List.getElem?_set_ne (Ne.symm a)];exact b)
theorem Kp {h H:List Ob} {i:Nat} {Q:List Int × Bool} (k:PnH h i Q H) (a:i<h.length) (x:AV) (b:List (AV × Int)) (g:SlOf H x 1 (b.map λp=>[p.1])) (f:∀p∈b,Jna H i p.1 p.2) (e:Q.1.length<536870912) (l:b.length<1048576):
  ACalls Tryz.prog 45 [.ptr i 0,x] H λr h'=>r= .tup []/\PnH h i (jF Q (b.map (·.2))) h'/\∀m o,m≠i->H[m]? =some o->h'[m]? =some o:=by
 obtain ⟨z,L,k1,k2,k3⟩:=k.eq
 have c:H[i]? =some (.box 107 [z,bl Q.2]):=by rw[k2];exact zb (List.getElem?_set_self a)
 refine (Xka H i z Q.1 Q.2 x b c k1 g f e l).mono ?_
 rintro r h' ⟨rfl,d,n,rfl⟩
 refine ⟨rfl,⟨d,L,n,?_,k3⟩,λm o j q=>by rw[List.getElem?_set_ne (Ne.symm j)];exact q⟩
 rw[k2,List.set_append_left _ _ (by rw[List.length_set];exact a),List.set_set]
def Z3 (R:RowV):List Int:=[R.tot 0,R.tot 1,R.tot 2,R.tot 3,R.tot 4,R.tot 5,R.tot 6]
def ZC (R:RowV):List Int:=[R.pays 0,R.pays 1,R.pays 2,R.pays 3,R.pays 4,R.pays 5,R.pays 6]
def vY (R:RowV):List Int:=[R.worker,R.week,R.err]++Z3 R++ZC R++[R.earned.1,R.earned.2,R.perf.1,R.perf.2,R.elig,wr (R.tier+1),R.extra,R.supp,R.total]
theorem ZVa (R:RowV) (a:AV) {k:Nat} (b:k<7):nth (jT R a) (3+k)=i64 (R.tot k)/\(Z3 R)[k]? =some (R.tot k):=by
 have:k=0∨k=1∨k=2∨k=3∨k=4∨k=5∨k=6:=by omega
 rcases this with rfl | rfl | rfl | rfl | rfl | rfl | rfl<;>exact ⟨rfl,rfl⟩
theorem yja (R:RowV) (a:AV) {k:Nat} (b:k<7):nth (jT R a) (10+k)=i64 (R.pays k)/\(ZC R)[k]? =some (R.pays k):=by
 have:k=0∨k=1∨k=2∨k=3∨k=4∨k=5∨k=6:=by omega
 rcases this with rfl | rfl | rfl | rfl | rfl | rfl | rfl<;>exact ⟨rfl,rfl⟩
theorem Vq {l:List Int} {k:Nat} {n:Int} (h:l[k]? =some n):l.take (k+1)=l.take k++[n]:=by
 obtain ⟨a,b⟩:=List.getElem?_eq_some_iff.1 h
 rw[<-b];exact (List.take_append_getElem a).symm
theorem ZWa (h:List Ob) (i j:Nat) (z:AV) (Q:List Int × Bool) (R:RowV) (G:AV) (a:j≠i) (K:h[i]? =some (.box 107 [z,bl Q.2])) (W:Sb z Q.1) (y:h[j]? =some (.box 45 (jT R G))) (S:Fit R.tier/\Fit (R.tier+1)) (α:AV.one G=true) (hQ:Q.1.length<268435456):
  ACalls Tryz.prog 49 [.ptr j 0,.fn (.func 45) [.ptr i 0] []] h λr h'=>r= .tup []/\PnH h i (jF Q (vY R)) h':=by
 have o:=(List.getElem?_eq_some_iff.1 K).1
 have hex:∃r h',(r=AV.tup []/\PnH h i (jF Q (vY R)) h')/\ResK h h':=
  ⟨_,h.set i (.box 107 [.sl 1 ((jF Q (vY R)).1.map jE),bl (jF Q (vY R)).2]),⟨rfl,_,[],.inl rfl,by simp,jN⟩,zK K rfl⟩
 have base:PnH h i Q h:=⟨z,[],W,by rw[List.append_nil];exact (zZ K).symm,jN⟩
 have w:=λns=>Zb ns Q
 refine zf Tryz.f49 [] 90 rfl rfl rfl rfl rfl rfl (by decide) (hex) λB=>?_
 simp only[go_sem,y]
 refine zp rfl [.res] 1 [(0,0,[]),(1,0,[]),(2,0,[]),(3,0,[]),(4,0,[]),(5,0,[]),(6,0,[]),(7,0,[]),(8,0,[])] rfl (by decide) (by decide) ?_
 simp only[go_sem]
 have k0:=base.app (M:=[.box 3 [i64 R.err],.row 109 1 [[.ptr j 0],[.ptr j 1],[.ptr h.length 0]] 0]) (zg rfl (zj rfl))
 have q:=k0.get a y
 have v:(h++[Ob.box 3 [i64 R.err],.row 109 1 [[.ptr j 0],[.ptr j 1],[.ptr h.length 0]] 0])[h.length]? =some (.box 3 [i64 R.err]):=by rw[zm rfl];rfl
 refine zd (Kp k0 o (.tl (h.length+1) 0) [(.ptr j 0,R.worker),(.ptr j 1,R.week),(.ptr h.length 0,R.err)] ⟨by rw[zP,zl (k:=1) rfl];rfl,λ_=>by rw[qR,zl (k:=1) rfl];rfl⟩ (λp d=>by
  rcases List.mem_cons.1 d with rfl | d
  ·exact ⟨j,0,_,_,rfl,a,q,by show 0<27;decide,rfl⟩
  rcases List.mem_cons.1 d with rfl | d
  ·exact ⟨j,1,_,_,rfl,a,q,by show 1<27;decide,rfl⟩
  rw[List.mem_singleton] at d
  subst d
  exact ⟨h.length,0,_,_,rfl,by omega,v,by show 0<1;decide,rfl⟩) (by omega) (by show 3<1048576;decide)) ?_
 rintro _ H1 ⟨rfl,k1,J⟩
 have b:=J j _ a q
 have E:=J h.length _ (by omega) v
 simp only[go_sem,b,E]
 rw[zZ b]
 refine zk (by decide) (λm T H=>∃n:Nat,n<=7/\PnH h i (jF Q ([R.worker,R.week,R.err]++(Z3 R).take n)) H/\T 0= .ptr j 0/\T 1= .fn (.func 45) [.ptr i 0] []/\T 25=i64 n/\m=7 - n) 7
  ⟨0,by omega,k1,by simp only[go_sem],by simp only[go_sem],by (simp only[go_sem]<;>rfl),rfl⟩ ?_
 clear k0 k1 q b v E J
 rintro m T H ⟨n,V,l,t0,t1,t25,rfl⟩
 simp only[go_sem,t25]
 refine ways (λe=>?_) (λe=>?_)
 ·have u:(n:Int)<7:=of_decide_eq_true e
  have c:n<7:=by omega
  have g:=l.get a y
  obtain ⟨L,N⟩:=ZVa R G c
  simp only[go_sem,t0,t1,t25,u,c,Nat.mul_one,Int.toNat_natCast,Int.natCast_nonneg]
  have f:=l.app (M:=[.row 109 1 [[.ptr j (3+n)]] 0]) (zj rfl)
  have D:=w ([R.worker,R.week,R.err]++(Z3 R).take n)
  have s:([R.worker,R.week,R.err]++(Z3 R).take n).length<=10:=by simp[Z3];omega
  refine zd (Kp f o (.tl H.length 0) [(.ptr j (3+n),R.tot n)] ⟨by rw[zP,zm rfl];rfl,λ_=>by rw[qR,zm rfl];rfl⟩ (λp d=>by
   rw[List.mem_singleton] at d
   subst d
   exact ⟨j,3+n,_,_,rfl,a,zb g,by show 3+n<27;omega,L⟩) (by omega) (by show 1<1048576;decide)) ?_
  rintro _ P ⟨rfl,k2,F⟩
  rw[<-wR] at k2
  simp only[go_sem,t25]
  exact ⟨7 - (n+1),by omega,n+1,by omega,by rw[Vq N];simpa using k2,t0,t1,zw (by omega) rfl,rfl⟩
 ·have I:¬ (n:Int)<7:=of_decide_eq_false e
  have x:n=7:=by omega
  subst x
  simp only[go_sem]
  refine zk (by decide) (λm T H=>∃n:Nat,n<=7/\PnH h i (jF Q ([R.worker,R.week,R.err]++Z3 R++(ZC R).take n)) H/\T 0= .ptr j 0/\T 1= .fn (.func 45) [.ptr i 0] []/\T 37=i64 n/\m=7 - n) 7
   ⟨0,by omega,by simpa [Z3] using l,by simp only[go_sem,t0],by simp only[go_sem,t1],by (simp only[go_sem]<;>rfl),rfl⟩ ?_
  clear l t0 t1 t25
  rintro m T H ⟨n,V,l,t0,t1,t,rfl⟩
  simp only[go_sem,t]
  refine ways (λe=>?_) (λe=>?_)
  ·have u:(n:Int)<7:=of_decide_eq_true e
   have c:n<7:=by omega
   have g:=l.get a y
   obtain ⟨L,N⟩:=yja R G c
   simp only[go_sem,t0,t1,t,u,c,Nat.mul_one,Int.toNat_natCast,Int.natCast_nonneg]
   have f:=l.app (M:=[.row 109 1 [[.ptr j (10+n)]] 0]) (zj rfl)
   have D:=w ([R.worker,R.week,R.err]++Z3 R++(ZC R).take n)
   have s:([R.worker,R.week,R.err]++Z3 R++(ZC R).take n).length<=17:=by simp[Z3,ZC];omega
   refine zd (Kp f o (.tl H.length 0) [(.ptr j (10+n),R.pays n)] ⟨by rw[zP,zm rfl];rfl,λ_=>by rw[qR,zm rfl];rfl⟩ (λp d=>by
    rw[List.mem_singleton] at d
    subst d
    exact ⟨j,10+n,_,_,rfl,a,zb g,by show 10+n<27;omega,L⟩) (by omega) (by show 1<1048576;decide)) ?_
   rintro _ P ⟨rfl,k2,F⟩
   rw[<-wR] at k2
   simp only[go_sem,t]
   exact ⟨7 - (n+1),by omega,n+1,by omega,by rw[Vq N];simpa using k2,t0,t1,zw (by omega) rfl,rfl⟩
  ·have I:¬ (n:Int)<7:=of_decide_eq_false e
   have x:n=7:=by omega
   subst x
   have g:=l.get a y
   simp only[go_sem,t0,g]
   refine zp rfl [.res] 1 [(0,0,[]),(1,0,[]),(2,0,[]),(3,0,[]),(4,0,[]),(5,0,[]),(6,0,[]),(7,0,[]),(8,0,[]),(9,0,[]),(10,0,[]),(11,0,[]),(12,0,[]),(13,0,[]),(14,0,[]),(15,0,[]),(16,0,[]),(17,0,[]),(18,0,[]),(19,0,[]),(20,0,[]),(21,0,[]),(22,0,[]),(23,0,[]),(24,0,[]),(25,0,[]),(26,0,[]),(27,0,[]),(28,0,[]),(29,0,[]),(30,0,[])] rfl (by decide) (by decide) ?_
   simp only[go_sem,t0,t1]
   have Y:IntKind.wrap .i64 (R.tier+1)=R.tier+1:=zF (n:=R.tier+1) S.2
   have f:=l.app (M:=[.box 3 [i64 (wr (R.tier+1))],.row 109 1 [[.ptr j 17],[.ptr j 18],[.ptr j 19],[.ptr j 20],[.ptr j 21],[.ptr H.length 0],[.ptr j 23],[.ptr j 24],[.ptr j 25]] 0]) (zg rfl (zj rfl))
   have U:i<H.length:=by
    obtain ⟨z0,L0,_,X,_⟩:=l.eq
    rw[X,List.length_append,List.length_set];omega
   have b:=f.get a y
   have A:(H++[Ob.box 3 [i64 (wr (R.tier+1))],.row 109 1 [[.ptr j 17],[.ptr j 18],[.ptr j 19],[.ptr j 20],[.ptr j 21],[.ptr H.length 0],[.ptr j 23],[.ptr j 24],[.ptr j 25]] 0])[H.length]? =some (.box 3 [i64 (wr (R.tier+1))]):=by rw[zm rfl];rfl
   have D:=w ([R.worker,R.week,R.err]++Z3 R++(ZC R).take 7)
   have s:([R.worker,R.week,R.err]++Z3 R++(ZC R).take 7).length<=17:=by simp[Z3,ZC]
   refine zd (Kp f o (.tl (H.length+1) 0) [(.ptr j 17,R.earned.1),(.ptr j 18,R.earned.2),(.ptr j 19,R.perf.1),(.ptr j 20,R.perf.2),(.ptr j 21,R.elig),(.ptr H.length 0,wr (R.tier+1)),(.ptr j 23,R.extra),(.ptr j 24,R.supp),(.ptr j 25,R.total)]
    ⟨by rw[zP,zl (k:=1) rfl];rfl,λ_=>by rw[qR,zl (k:=1) rfl];rfl⟩ (λp d=>by
    simp only[List.mem_cons,List.not_mem_nil,or_false] at d
    rcases d with rfl | rfl | rfl | rfl | rfl | rfl | rfl | rfl | rfl
    ·exact ⟨j,17,_,_,rfl,a,b,by show 17<27;decide,rfl⟩
    ·exact ⟨j,18,_,_,rfl,a,b,by show 18<27;decide,rfl⟩
    ·exact ⟨j,19,_,_,rfl,a,b,by show 19<27;decide,rfl⟩
    ·exact ⟨j,20,_,_,rfl,a,b,by show 20<27;decide,rfl⟩
    ·exact ⟨j,21,_,_,rfl,a,b,by show 21<27;decide,rfl⟩
    ·exact ⟨H.length,0,_,_,rfl,by omega,A,by show 0<1;decide,rfl⟩
    ·exact ⟨j,23,_,_,rfl,a,b,by show 23<27;decide,rfl⟩
    ·exact ⟨j,24,_,_,rfl,a,b,by show 24<27;decide,rfl⟩
    ·exact ⟨j,25,_,_,rfl,a,b,by show 25<27;decide,rfl⟩) (by omega) (by show 9<1048576;decide)) ?_
   rintro _ P ⟨rfl,k2,F⟩
   have C:=F j _ a b
   have O:=F H.length _ (by omega) A
   have Z:IntKind.wrap .i64 (wr (R.tier+1) - 1)=R.tier:=by
    rw[show wr (R.tier+1)=R.tier+1 from Y]
    exact (zF (n:=R.tier+1 - 1) (by have:=S.1;unfold Fit at *; omega)).trans (by omega)
   rw[<-wR] at k2
   simp only[go_sem,t0,C,O,Z]
   rw[zZ C]
   exact ⟨_,rfl,.inl ⟨rfl,by simpa [vY,ZC,Z3] using k2⟩⟩
set_option maxRecDepth 100000
theorem PnH.base {h M:List Ob} {i:Nat} {Q:List Int × Bool} {H:List Ob} (k:PnH (h++M) i Q H) (a:i<h.length) (b:NoRes M):PnH h i Q H:=by
 obtain ⟨z,L,k1,k2,k3⟩:=k.eq
 exact ⟨z,M++L,k1,by rw[k2,List.set_append_left _ _ a,List.append_assoc],b.app k3⟩
theorem PnH.sl {h:List Ob} {i:Nat} {Q:List Int × Bool} {H:List Ob} (k:PnH h i Q H) {t:TypeId} {c:List AV} (b:h[i]? =some (.box t c)) {x:AV} {e:Nat} {rows:List (List AV)} (a:SlOf h x e rows):SlOf H x e rows:=by
 obtain ⟨z,L,k1,k2,k3⟩:=k.eq
 rw[k2]
 exact (a.keep (.setB b)).app _
def ZD (F:List Flg):List Int:=F.flatMap λf=>[f.id,f.kind]
theorem Jd:∀F:List Flg,(ZD F).length=2*F.length
 | []=>rfl
 | f::F=>by
   have:=Jd F
   unfold ZD at*
   rw[List.flatMap_cons,List.length_append,List.length_cons,this];simp;omega
theorem qja {F:List Flg} {n:Nat} (h:n<F.length):ZD (F.take (n+1))=ZD (F.take n)++[(F[n]).id,(F[n]).kind]:=by
 unfold ZD
 rw[show F.take (n+1)=F.take n++[F[n]] from (List.take_append_getElem h).symm,List.flatMap_append];simp
def xW (R:RowV) (F:List Flg):List Int:=vY R++[(F.length:Int)]++ZD F
theorem Z4 (R:RowV):(vY R).length=26:=rfl
theorem q6a (h:List Ob) (i:Nat) (z:AV) (Q:List Int × Bool) (R:RowV) (d:AV) (F:List Flg) (s:h[i]? =some (.box 107 [z,bl Q.2])) (hz:Sb z Q.1) (ht:Fit R.tier/\Fit (R.tier+1)) (O:SlOf h d 2 (F.map xP)) (hQ:Q.1.length<134217728) (ι:F.length<524288):
  ACalls Tryz.prog 46 [.ptr i 0,.ag (jT R d)] h λr h'=>r= .tup []/\PnH h i (jF Q (xW R F)) h':=by
 have c:=(List.getElem?_eq_some_iff.1 s).1
 have u:=O.one
 have hex:∃r h',(r=AV.tup []/\PnH h i (jF Q (xW R F)) h')/\ResK h h':=
  ⟨_,h.set i (.box 107 [.sl 1 ((jF Q (xW R F)).1.map jE),bl (jF Q (xW R F)).2]),⟨rfl,_,[],.inl rfl,by simp,jN⟩,zK s rfl⟩
 have J:=λns=>Zb ns Q
 refine zf Tryz.f46 [] 29 rfl rfl rfl rfl rfl rfl (by decide) (hex) λB=>?_
 simp only[go_sem,u]
 have V:(h++[Ob.box 45 (jT R d)])[i]? =some (.box 107 [z,bl Q.2]):=zb s
 have v:(h++[Ob.box 45 (jT R d)])[h.length]? =some (.box 45 (jT R d)):=by rw[zm rfl];rfl
 have q:h.length≠i:=by omega
 refine zd (ZWa _ i h.length z Q R d q V hz v ht u (by omega)) ?_
 rintro _ a ⟨rfl,k1⟩
 have j:=k1.get q v
 have C:zo a d=some (F.map xP):=by
  obtain ⟨z0,L0,_,A,_⟩:=k1.eq
  rw[A,List.set_append_left _ _ c,List.append_assoc]
  exact ((O.keep (.setB s)).app _).rows
 simp only[go_sem,j,C,List.length_map]
 have X:=k1.base c (zj rfl)
 have N:=X.app (M:=[.box 3 [i64 F.length],.row 109 1 [[.ptr a.length 0]] 0]) (zg rfl (zj rfl))
 have E:=J (vY R)
 rw[Z4] at E
 have ζ:i<a.length:=by
  obtain ⟨z0,L0,_,A,_⟩:=X.eq
  rw[A,List.length_append,List.length_set];omega
 have b:(a++[Ob.box 3 [i64 F.length],.row 109 1 [[.ptr a.length 0]] 0])[a.length]? =some (.box 3 [i64 F.length]):=by rw[zm rfl];rfl
 have K:(a++[Ob.box 3 [i64 F.length],.row 109 1 [[.ptr a.length 0]] 0])[h.length]? =some (.box 45 (jT R d)):=zb j
 refine zd (Kp N c (.tl (a.length+1) 0) [(.ptr a.length 0,(F.length:Int))] ⟨by rw[zP,zl (k:=1) rfl];rfl,λ_=>by rw[qR,zl (k:=1) rfl];rfl⟩ (λp I=>by
  rw[List.mem_singleton] at I
  subst I
  exact ⟨a.length,0,_,_,rfl,by omega,b,by show 0<1;decide,rfl⟩) (by omega) (by show 1<1048576;decide)) ?_
 rintro _ H2 ⟨rfl,k2,Z⟩
 rw[<-wR] at k2
 have t:=Z h.length _ q K
 have y:=(k2.sl s O).rows
 simp only[go_sem,t,y,List.length_map]
 refine zk (by decide) (λm T H=>∃n:Nat,n<=F.length/\PnH h i (jF Q (vY R++[(F.length:Int)]++ZD (F.take n))) H/\T 0= .ptr i 0/\T 17=d/\T 18=i64 F.length/\T 19=i64 n/\m=F.length - n) F.length
  ⟨0,by omega,by simpa [ZD] using k2,by simp only[go_sem],by simp only[go_sem],by (simp only[go_sem]<;>rfl),by (simp only[go_sem]<;>rfl),rfl⟩ ?_
 clear k1 k2 X N j K t y C b Z
 rintro m T H ⟨n,hn,L,t0,x,D,o,rfl⟩
 simp only[go_sem,D,o]
 refine ways (λe=>?_) (λe=>?_)
 ·have l:=dlt e
  have f:=q1a l
  have U:(n:Int)<F.length:=by omega
  have w:=L.sl s O
  have Y:=w.at (i:=n) (by rw[List.length_map];exact l)
  have S:=w.rows
  have G:=qja l
  obtain ⟨g,hg⟩:∃g,g=F[n]:=⟨_,rfl⟩
  rw[<-hg] at f G
  simp only[go_sem,t0,x,o,Y,S,f,U,List.length_map,Int.toNat_natCast,Int.natCast_nonneg]
  have γ:i<H.length:=by
   obtain ⟨z0,L0,_,A,_⟩:=L.eq
   rw[A,List.length_append,List.length_set];omega
  have W:=L.app (M:=[.box 105 [i64 g.id,i64 g.kind],.row 109 1 [[.ptr H.length 0],[.ptr H.length 1]] 0]) (zg rfl (zj rfl))
  have b:(H++[Ob.box 105 [i64 g.id,i64 g.kind],.row 109 1 [[.ptr H.length 0],[.ptr H.length 1]] 0])[H.length]? =some (.box 105 [i64 g.id,i64 g.kind]):=by rw[zm rfl];rfl
  have E:=J (vY R++[(F.length:Int)]++ZD (F.take n))
  have α:(vY R++[(F.length:Int)]++ZD (F.take n)).length<=27+2*F.length:=by
   rw[List.length_append,List.length_append,Z4,Jd,List.length_take]
   show 26+1+_<=_
   omega
  refine zd (Kp W c (.tl (H.length+1) 0) [(.ptr H.length 0,g.id),(.ptr H.length 1,g.kind)] ⟨by rw[zP,zl (k:=1) rfl];rfl,λ_=>by rw[qR,zl (k:=1) rfl];rfl⟩ (λp I=>by
   simp only[List.mem_cons,List.not_mem_nil,or_false] at I
   rcases I with rfl | rfl
   ·exact ⟨H.length,0,_,_,rfl,by omega,b,by show 0<2;decide,rfl⟩
   ·exact ⟨H.length,1,_,_,rfl,by omega,b,by show 1<2;decide,rfl⟩) (by omega) (by show 2<1048576;decide)) ?_
  rintro _ H3 ⟨rfl,k3,g3⟩
  rw[<-wR] at k3
  simp only[go_sem,o]
  exact ⟨F.length - (n+1),by omega,n+1,by omega,by rw[G];simpa using k3,t0,x,D,zw (by omega) rfl,rfl⟩
 ·have δ:=jk e
  have P:n=F.length:=by omega
  subst P
  rw[List.take_length] at L
  simp only[go_sem]
  exact ⟨_,rfl,.inl ⟨rfl,L⟩⟩
set_option maxRecDepth 100000
def yr (R:RowV) (F:List Flg):Bool:= !(decide (R.err>100000) || decide ((F.length:Int)>200)) && (jF ([],true) (xW R F)).2
theorem vNa (h:List Ob) (R:RowV) (a:AV) (F:List Flg) (n:Fit R.tier/\Fit (R.tier+1)) (f:SlOf h a 2 (F.map xP)) (g:F.length<524288):
  ACalls Tryz.prog 19 [.ag (jT R a)] h λr h'=>r=bl (yr R F)/\h'=h:=by
 have e:=f.one
 have c:∀M,zo (h++M) a=some (F.map xP):=λM=>(f.app M).rows
 refine zf Tryz.f19 [.tmp 2] 18 rfl rfl rfl rfl rfl rfl (by decide) (⟨_,_,⟨rfl,rfl⟩,.refl⟩) λB=>?_
 simp only[go_sem,e]
 cases b:decide (R.err>100000)
 ·cases d:decide ((F.length:Int)>200)
  ·simp only[go_sem,b,d,zL,c,List.length_map]
   have m:(h++[Ob.box 45 (jT R a),.box 107 [.v (.slice none 0 0),bl true]])[h.length+1]? =some (.box 107 [.v (.slice none 0 0),bl true]):=by rw[zl (k:=1) rfl];rfl
   refine zd (q6a _ (h.length+1) (.v (.slice none 0 0)) ([],true) R a F m (.inr ⟨rfl,rfl⟩) n (f.app _) (by decide) g) ?_
   rintro _ l ⟨rfl,k1⟩
   obtain ⟨z,L,o,i,z3⟩:=k1.eq
   have j:l[h.length+1]? =some (.box 107 [z,bl (jF ([],true) (xW R F)).2]):=by rw[i];exact zb (List.getElem?_set_self (by simp))
   simp only[go_sem,j]
   refine ⟨bl (jF ([],true) (xW R F)).2,by simp only[go_sem],.inr ⟨h,[.box 45 (jT R a),.box 107 [z,bl (jF ([],true) (xW R F)).2]]++L,?_,rfl,rfl,.refl,?_,rfl⟩⟩
   ·rw[i,List.set_append_right _ _ (by omega),show h.length+1 - h.length=1 by omega,List.append_assoc];rfl
   ·unfold yr;rw[b,d];rfl
  ·simp only[go_sem,b,d,zL,c,List.length_map]
   (first | refine zc ?_ | refine ze ?_ (by rfl))<;>(simp only[go_sem,yr,b,d,Bool.or_true,Bool.not_true,Bool.false_and]<;>try rfl)
 ·simp only[go_sem,b,zL]
  (first | refine zc ?_ | refine ze ?_ (by rfl))<;>(simp only[go_sem,yr,b,Bool.true_or,Bool.not_true,Bool.false_and]<;>try rfl)
def yA (W:List (RowV × List Flg)):List Int:=W.flatMap λq=>xW q.1 q.2
def okW (W:List (RowV × List Flg)):Bool:=W.all λq=>yr q.1 q.2
def vd (W:List (RowV × List Flg)):List Int × Int:=if okW W then ((jF ([],true) ([(W.length:Int)]++yA W)).1,0) else ([],200)
abbrev RwA:=RowV × AV × List Flg
def jH (W:List RwA):List (RowV × List Flg):=W.map λq=>(q.1,q.2.2)
theorem Vr:∀W:List (RowV × List Flg),okW W=true->(yA W).length<=427*W.length
 | [],_=>by simp[yA]
 | q::W,h=>by
   unfold okW at h
   rw[List.all_cons,Bool.and_eq_true] at h
   have b:=Vr W h.2
   have c:(xW q.1 q.2).length<=427:=by
    have a:=h.1
    unfold yr at a
    simp only[Bool.and_eq_true,Bool.not_eq_true',Bool.or_eq_false_iff,decide_eq_false_iff_not] at a
    unfold xW
    rw[List.length_append,List.length_append,Z4,Jd]
    show 26+1+_<=_
    omega
   unfold yA at*
   rw[List.flatMap_cons,List.length_append,List.length_cons]
   omega
theorem PnH.trans {h H d:List Ob} {i:Nat} {Q Q':List Int × Bool} (k:PnH h i Q H) (k':PnH H i Q' d) (f:i<h.length):PnH h i Q' d:=by
 obtain ⟨z,L,k1,k2,k3⟩:=k.eq
 obtain ⟨e,g,b,c,a⟩:=k'.eq
 exact ⟨e,L++g,b,by rw[c,k2,List.set_append_left _ _ (by rw[List.length_set];exact f),List.set_set,List.append_assoc],k3.app a⟩
theorem qka {W:List RwA} {n:Nat} (h:n<W.length):jH (W.take (n+1))=jH (W.take n)++[((W[n]).1,(W[n]).2.2)]:=by
 unfold jH
 rw[show W.take (n+1)=W.take n++[W[n]] from (List.take_append_getElem h).symm,List.map_append];rfl
theorem PnH.over {h b H:List Ob} {o:Ob} {Q:List Int × Bool} (a:b=h++[o]) (k:PnH b h.length Q H):∃L,H=h++L:=by
 obtain ⟨z,L,k1,k2,k3⟩:=k.eq
 subst a
 refine ⟨[.box 107 [z,bl Q.2]]++L,?_⟩
 rw[k2,List.set_append_right _ _ (Nat.le_refl _),Nat.sub_self,List.append_assoc]
 rfl
theorem yka (h:List Ob) (x:AV) (W:List RwA) (hx:SlOf h x 27 (W.map λq=>jT q.1 q.2.1)) (hF:∀q∈W,SlOf h q.2.1 2 (q.2.2.map xP)/\(Fit q.1.tier/\Fit (q.1.tier+1))/\q.2.2.length<524288) (hl:W.length<4096):
  ACalls Tryz.prog 15 [x] h λr h'=>(∃z,Sb z (vd (jH W)).1/\r= .tup [z,i64 (vd (jH W)).2])/\h'=h:=by
 have hex:∃r h',((∃z,Sb z (vd (jH W)).1/\r=AV.tup [z,i64 (vd (jH W)).2])/\h'=h)/\ResK h h':=⟨_,_,⟨⟨_,.inl rfl,rfl⟩,rfl⟩,.refl⟩
 have φ:=hx.rows
 have ι:∀M,zo (h++M) x=some (W.map λq=>jT q.1 q.2.1):=λM=>(hx.app M).rows
 refine zf Tryz.f15 [.tmp 2,.tmp 3] 27 rfl rfl rfl rfl rfl rfl (by decide) (hex) λB=>?_
 simp only[go_sem,ι,List.length_map]
 obtain ⟨j,a⟩:∃j,j=h++[Ob.box 107 [.v (.slice none 0 0),bl true]]:=⟨_,rfl⟩
 have X:j[h.length]? =some (.box 107 [.v (.slice none 0 0),bl true]):=by rw[a,zm rfl];rfl
 have o:h.length<j.length:=by rw[a];simp
 have base:PnH j h.length ([],true) j:=⟨_,[],.inr ⟨rfl,rfl⟩,by rw[List.append_nil];exact (zZ X).symm,jN⟩
 have C:=base.app (M:=[.box 3 [i64 W.length],.row 109 1 [[.ptr (h.length+1) 0]] 0]) (zg rfl (zj rfl))
 have hE:j++[Ob.box 3 [i64 W.length],.row 109 1 [[.ptr (h.length+1) 0]] 0]=h++[Ob.box 107 [.v (.slice none 0 0),bl true],.box 3 [i64 W.length],.row 109 1 [[.ptr (h.length+1) 0]] 0]:=by rw[a];simp
 rw[hE] at C
 refine zd (Kp C o (.tl (h.length+2) 0) [(.ptr (h.length+1) 0,(W.length:Int))] ⟨by rw[zP,zl (k:=2) rfl];rfl,λ_=>by rw[qR,zl (k:=2) rfl];rfl⟩ (λp hp=>by
  rw[List.mem_singleton] at hp
  subst hp
  exact ⟨h.length+1,0,_,_,rfl,by omega,by rw[zl (k:=1) rfl];rfl,by show 0<1;decide,rfl⟩) (by decide) (by show 1<1048576;decide)) ?_
 rintro _ H2 ⟨rfl,k2,g2⟩
 have P:SlOf j x 27 (W.map λq=>jT q.1 q.2.1):=by rw[a];exact hx.app _
 have ε:∀q∈W,SlOf j q.2.1 2 (q.2.2.map xP):=λq hq=>by rw[a];exact (hF q hq).1.app _
 have I:=(k2.sl X P).rows
 simp only[go_sem,I,List.length_map]
 refine zk (by decide) (λm T H=>∃n:Nat,n<=W.length/\okW (jH (W.take n))=true/\PnH j h.length (jF ([],true) ([(W.length:Int)]++yA (jH (W.take n)))) H/\T 4= .ptr h.length 0/\T 13=x/\T 14=i64 W.length/\T 15=i64 n/\m=W.length - n) W.length
  ⟨0,by omega,rfl,by simpa [yA,jH] using k2,by simp only[go_sem],by simp only[go_sem],by (simp only[go_sem]<;>rfl),by (simp only[go_sem]<;>rfl),rfl⟩ ?_
 clear k2 C g2 I
 rintro m T H ⟨n,hn,c,u,t4,O,U,w,rfl⟩
 simp only[go_sem,U,w]
 refine ways (λe=>?_) (λe=>?_)
 ·have s:=dlt e
  have d:(W.map λq=>jT q.1 q.2.1)[n]? =some (jT (W[n]).1 (W[n]).2.1):=by rw[List.getElem?_map,List.getElem?_eq_getElem s];rfl
  have γ:(n:Int)<W.length:=by omega
  have E:=u.sl X P
  have η:=E.at (i:=n) (by rw[List.length_map];exact s)
  have β:=E.rows
  have l:=qka s
  have b:=List.getElem_mem s
  obtain ⟨⟨R,D,F⟩,hg⟩:∃g,g=W[n]:=⟨_,rfl⟩
  rw[<-hg] at d l b
  obtain ⟨q1,q2,q3⟩:=hF _ b
  have t:=ε _ b
  simp only at d l q1 q2 q3 t
  have f:=u.sl X t
  have G:=f.one
  simp only[go_sem,t4,O,w,η,β,d,γ,G,List.length_map,Int.toNat_natCast,Int.natCast_nonneg]
  refine zd (vNa _ R D F q2 (f.app _) q3) ?_
  rintro _ H3 ⟨rfl,e3⟩
  rw[e3]
  cases Y:yr R F
  ·have Q:okW (jH W)=false:=by
    unfold okW
    rw[List.all_eq_false]
    exact ⟨(R,F),List.mem_map.2 ⟨(R,D,F),b,rfl⟩,by simp[Y]⟩
   have N:vd (jH W)=([],200):=by unfold vd;rw[Q];rfl
   simp only[go_sem,Y,zL,Bool.not_false]
   obtain ⟨L',y⟩:=(u.app (M:=[Ob.box 45 (jT R D)]) (zj rfl)).over a
   exact ⟨.tup [.v (.slice none 0 0),i64 200],rfl,.inr ⟨h,L',y,rfl,rfl,.refl,⟨_,by rw[N];exact .inr ⟨rfl,rfl⟩,by rw[N]⟩,rfl⟩⟩
  ·have J:okW (jH (W.take (n+1)))=true:=by
    rw[l];unfold okW at c ⊢;rw[List.all_append,c];simp[Y]
   simp only[go_sem,Y,zL,Bool.not_true,t4,G]
   obtain ⟨z,L,V,z2,z3⟩:=u.eq
   have A:(H++[Ob.box 45 (jT R D)])[h.length]? =some (.box 107 [z,bl (jF ([],true) ([(W.length:Int)]++yA (jH (W.take n)))).2]):=by
    rw[z2];exact zb (zb (List.getElem?_set_self o))
   have K:=Zb ([(W.length:Int)]++yA (jH (W.take n))) ([],true)
   have υ:=Vr _ c
   have σ:(jH (W.take n)).length<=W.length:=by unfold jH;rw[List.length_map,List.length_take];omega
   have S:(jF ([],true) ([(W.length:Int)]++yA (jH (W.take n)))).1.length<134217728:=by
    rw[List.length_append] at K
    simp only[List.length_nil,List.length_cons] at K
    omega
   refine zd (q6a _ h.length z _ R D F A V q2 (f.app _) S q3) ?_
   rintro _ H4 ⟨rfl,k4⟩
   have k5:=(u.app (M:=[Ob.box 45 (jT R D)]) (zj rfl)).trans k4 o
   rw[<-wR] at k5
   simp only[go_sem,w]
   exact ⟨W.length - (n+1),by omega,n+1,by omega,J,by rw[l];simpa [yA] using k5,t4,O,U,zw (by omega) rfl,rfl⟩
 ·have ξ:=jk e
  have Z:n=W.length:=by omega
  subst Z
  rw[List.take_length] at c u
  have N:vd (jH W)=((jF ([],true) ([(W.length:Int)]++yA (jH W))).1,0):=by
   unfold vd;rw[c];simp[jH]
  obtain ⟨z,L,V,z2,z3⟩:=u.eq
  have A:H[h.length]? =some (.box 107 [z,bl (jF ([],true) ([(W.length:Int)]++yA (jH W))).2]):=by
   rw[z2];exact zb (List.getElem?_set_self o)
  simp only[go_sem,t4,A]
  obtain ⟨L',y⟩:=u.over a
  exact ⟨.tup [z,i64 0],rfl,.inr ⟨h,L',y,rfl,by simp only[AV.lt,zQ,V.lt,Bool.and_self],.refl,⟨z,by rw[N];exact V,by rw[N]⟩,rfl⟩⟩
theorem vOa (h:List Ob) (x:AV) (W:List RwA) (e:SlOf h x 27 (W.map λq=>jT q.1 q.2.1)) (d:∀q∈W,SlOf h q.2.1 2 (q.2.2.map xP)/\(Fit q.1.tier/\Fit (q.1.tier+1))/\q.2.2.length<524288) (f:W.length<4096):
  ACalls Tryz.prog 15 [x] h λr h'=>r= .tup [.sl 1 ((vd (jH W)).1.map jE),i64 (vd (jH W)).2]/\h'=h:=
 Jt (yka h x W e d f) λr h' ⟨⟨z,g,b⟩,a⟩=>by
  subst b
  rcases g with rfl | ⟨rfl,c⟩
  ·exact ⟨_,⟨rfl,a⟩,.refl _⟩
  ·refine ⟨_,⟨rfl,a⟩,.two ?_ (.refl _)⟩
   rw[c]
   exact .nil 1
set_option maxRecDepth 100000
section
variable {h:List Ob} {d:Nat} {s:Setup} {a:SA} {x c:AV} {err:Int} {rows segs bytes:AV} {q:Cm}
end
structure Bk where
 evs:List Ev
 shut:List Int
structure An where
 err:Int
 rows:List (RowV × List Flg)
 segs:List Seg
 bytes:List Int
structure BkI (s:Setup) (b:Bk):Prop where
 few:b.evs.length<=200
 srt:Srt b.evs
 ids:(b.evs.map (·.id)).Nodup
 ok:∀e∈b.evs,yR s e=true
 rise:b.shut.Pairwise (· < ·)
 rng:∀w∈b.shut,0<=w/\w<=52
end Go.Proofs.YtigdlmpjijhpaaaGreat.Ax
namespace Go.Proofs.YtigdlmpjijhpaaaGreat.Ax
open Go Go.Proofs Go.RowKit
set_option maxRecDepth 100000
end Go.Proofs.YtigdlmpjijhpaaaGreat.Ax
namespace Go.Proofs.YtigdlmpjijhpaaaGreat.Ax
open Go Go.Proofs
set_option maxRecDepth 100000
structure ApI (h:List Ob) (q:Fx) (at_:Int) (rows:List Ev) (T:Env) (h':List Ob):Prop where
 pre:Pre h h'
 b1:h'[h.length+1]? =some (.box 77 (fxC q))
 own:OwnS h h' 75 11 (T 11) (rows.map evC)
 t5:T 5= .ptr (h.length+1) 0
 t8:T 8=bl (Jka q)
 t9:T 9=bl (ZSa q)
 t10:T 10=i64 at_
set_option maxRecDepth 100000
def ZXa (k:Int × Int):Value:= .agg #[.int .i64 k.1,.int .i64 k.2]
structure KM (es:Array MapEntry) (c:Nat) (ks:List (Int × Int)):Prop where
 keys:es.toList.map (·.key)=ks.map ZXa
 vals:∀e∈es.toList,∃n,e.val= .int .i64 n
 born:(es.toList.map (·.born)).Nodup
 lt:∀e∈es.toList,e.born<c
def Xla (ks:List (Int × Int)) (k:Int × Int):List (Int × Int):=if k∈ks then ks else ks++[k]
end Go.Proofs.YtigdlmpjijhpaaaGreat.Ax
namespace Go.Proofs.YtigdlmpjijhpaaaGreat.Ax
open Go Go.RowKit
def Joa (P:Program) (N:Nat) (o:Oper) (K:Env->List Ob->Prop) (T:Env) (h:List Ob):Prop:=
 ∀ (φ:Nat->Ob),Upto φ h.length->∀(B:Bs) (w:World) (g:Gh) (a:Act),Rel N B w g (fill φ h) a T->∀(Q:Exit->Act->World->Prop) (next:Act->World->Prop),
   (∀b h' w' c,K b h'->Aft N B φ w g h b h' c w'->next c w')->o.wp P a w next Q
section
variable {P:Program} {N:Nat} {B:Bs} {ops:Array Oper} {T:Env} {h:List Ob} {K:Env->List Ob->Prop} {o:Oper}
def yRa (P:Program) (N:Nat) (K:Env->List Ob->Prop):List Oper->Env->List Ob->Prop
 | [],T,h=>K T h
 | o::l,T,h=>o.guard=none/\Joa P N o (yRa P N K l) T h
theorem xxa:yRa P N K [] T h=K T h:=id rfl
attribute [go_sem] xxa
end
end Go.Proofs.YtigdlmpjijhpaaaGreat.Ax
namespace Go.Proofs.YtigdlmpjijhpaaaGreat.Ax
open Go Go.Proofs Go.RowKit
set_option maxRecDepth 100000
section
variable {P:Program} {N:Nat} {B:Bs} {c:Code} {Q:jr} {T:Env} {h:List Ob}
end
section
variable {N:Nat} {T:Env} {h:List Ob} {K:Env->List Ob->Prop} {o:Oper}
end
end Go.Proofs.YtigdlmpjijhpaaaGreat.Ax
namespace Go.Proofs.YtigdlmpjijhpaaaGreat.Ax
open Go Go.Proofs Go.Shelf Go.RowKit Go.Lib Go.Sort
set_option maxRecDepth 100000
end Go.Proofs.YtigdlmpjijhpaaaGreat.Ax
namespace Go.Proofs.YtigdlmpjijhpaaaGreat.Ax
open Go Go.Proofs
set_option maxRecDepth 100000
structure JT (H:List Ob) (id l i3 j:Nat) (e:Ev) (w:Int) (ks:List (Int × Int)) (u1 u5:AV) (S:Nat->Bool) (T:Env) (h:List Ob):Prop where
 t1:T 1=u1
 t2:T 2= .ptr j 0
 t3:T 3= .ptr i3 0
 t5:T 5=u5
 t6:T 6=i64 w
 k0:S 0=true->T 20= .v (.map (some l))
 k1:S 1=true->T 21= .ptr i3 1
 k2:S 2=true->T 22=i64 e.worker
 k3:S 3=true->T 23=i64 w
 k4:S 4=true->T 24= .ag [i64 e.worker,i64 w]
 k5:S 5=true->∃n,T 25=i64 n
 k6:S 6=true->∃n,T 26=i64 n
 k8:S 8=true->S 7=true
 k7:∃es c ks',h=H.set id (.raw l (.map es c) [] [])/\KM es c ks'/\(S 7=false->ks'=ks)/\(S 7=true->ks'=Xla ks (e.worker,w)/\∃(n:Int) (st:Nat),T 27= .tup [i64 n,i64 st]/\(S 8=true->T 28=i64 st)/\∃x∈es.toList,x.born=st)
end Go.Proofs.YtigdlmpjijhpaaaGreat.Ax
namespace Go.Proofs.YtigdlmpjijhpaaaGreat.Ax
open Go Go.Proofs Go.RowKit
set_option maxRecDepth 100000
structure Vis (es:Array MapEntry) (seen:Array Nat) (vs:List (Int × Int)):Prop where
 nodup:vs.Nodup
 iff:∀e∈es.toList,∀k,e.key=ZXa k->(k∈vs↔e.born∈seen)
 sub:∀k∈vs,∃e∈es.toList,e.key=ZXa k
end Go.Proofs.YtigdlmpjijhpaaaGreat.Ax
namespace Go.Proofs.YtigdlmpjijhpaaaGreat.Ax
open Go Go.Proofs
set_option maxRecDepth 100000
section
variable {h:List Ob} {d:Nat} {s:Setup} {a:SA} {x c:AV} {rows segs bytes:AV} {q:Cm}
end
end Go.Proofs.YtigdlmpjijhpaaaGreat.Ax
namespace Go.Proofs.YtigdlmpjijhpaaaGreat.Ax
open Go Go.RowKit
section
variable {B:Nat} {w w':World} {g g':Gh} {h h' L:List Ob} {P:Program}
end
end Go.Proofs.YtigdlmpjijhpaaaGreat.Ax
namespace Go.Proofs.YtigdlmpjijhpaaaGreat.Ax
open Go Go.Proofs
set_option maxRecDepth 100000
set_option maxRecDepth 100000
structure DE (h:List Ob) (d:Nat) (mk:AV->Ob) (y:AV) (rows:List (List AV)) (H:List Ob):Prop where
 eq:∃M,H=h.set d (mk y)++M/\NoRes M
 own:OwnS h H 45 27 y rows
section
variable {h:List Ob} {d:Nat} {s:Setup} {a:SA} {x c:AV} {segs:AV} {q:Cm}
theorem vPa {s:Setup} (f:SFit s) (p:zy):Fit (xr s p)/\Fit (xr s p+1):=by
 have d: -1<=xr s p/\xr s p<9223372036854775807:=by
  cases b:zE s
  ·have:xr s p= -1:=by simp[xr,b]
   omega
  ·cases a:rok p
   ·have:xr s p= -1:=by simp[xr,a]
    omega
   ·rcases wLa b a with ⟨e,_⟩ | ⟨j,t,c,g,_⟩
    ·omega
    ·have:=(List.getElem?_eq_some_iff.1 c).1
     have:=f.nt
     omega
 constructor<;>(unfold Fit;omega)
theorem vQa {s:Setup} (f:SFit s) (l:List Ev) (w wk:Int) (d:l.length<=1000):(Fit (je s l w wk).1.tier/\Fit ((je s l w wk).1.tier+1))/\(je s l w wk).2.length<524288:=by
 unfold je
 split
 ·exact ⟨by constructor<;>(show Fit _;unfold Fit;first | exact (by decide:(-9223372036854775808:Int)<= -1/\(-1:Int)<=9223372036854775807) | exact (by decide:(-9223372036854775808:Int)<= -1+1/\(-1+1:Int)<=9223372036854775807)),by show 0<524288;decide⟩
 ·constructor
  ·show Fit (ite _ (xr s _) (-1))/\Fit (ite _ (xr s _) (-1)+1)
   split
   ·exact vPa f _
   ·constructor<;>(unfold Fit;decide)
  ·have a:= @JE s (evR s w l) w
   have c:(evR s w l).length<=l.length:=q0a s w l
   have b:=List.length_filter_le (λg=>y9 (evR s w l) g==wk) (zR s (evR s w l) w).2
   show (List.filter _ _).length<_
   omega
end
end Go.Proofs.YtigdlmpjijhpaaaGreat.Ax
