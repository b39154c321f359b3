/-
  Joined.
-/
import Derived.Test.YtfmldcilgbbimaaGreatK39
import Derived.Test.YtfmldcilgbbimaaGreatK36
import Derived.Test.YtfmldcilgbbimaaGreatK37
import Derived.Test.YtfmldcilgbbimaaGreatK13
import Derived.WideKeyRuns
import Derived.WideKeyEntry
import Derived.Maps.RangeRun
import Derived.Test.YtfmldcilgbbimaaGreatK10
import Derived.Test.YtfmldcilgbbimaaGreatK35
import Derived.Test.YtfmldcilgbbimaaGreatK33
import Derived.Test.YtfmldcilgbbimaaGreatK34
set_option linter.unusedSimpArgs false
set_option linter.unusedVariables false
namespace Go.Proofs.YtfmldcilgbbimaaGreat.Ax
open Go Go.Proofs
set_option maxRecDepth 100000
theorem Kz {P:Program} {f:FuncId} {ar:List AV} {h:List Ob} {u:AV} {e:Nat} {rows:List (List AV)} (t:0<e) (j:u.lt h.length=true) (y:z6 h.length rows=true) (c:ACalls P f ar h λr h'=>∃L x,h'=h++L/\NoRes L/\r= .tup [x,u]/\New h e x rows L):ACalls P f ar h λr h'=>r= .tup [.sl e rows,u]/\h'=h:=by
 refine ⟨c.1,⟨_,_,⟨rfl,rfl⟩,.refl⟩,λφ l B w g vs m hB b=>?_⟩
 refine (c.2.2 φ l B w g vs m hB b).mono λD w' ⟨v,r,h',g',A,⟨L,x,n,_,z,n1⟩,_,d,k⟩=>?_
 subst n z
 rw[q8 l] at d k
 have a:(fill φ h).length=h.length:=qc
 obtain ⟨us,rfl,p,E,C,a1,q,o,s,a2,i⟩:=k
 have i:o=[]:=i
 subst i s
 refine ⟨_,_,h,g',A,⟨rfl,rfl⟩,.refl,d.drop rfl (by have:=m.ids;exact this),us,rfl,?_⟩
 rw[C]
 exact ⟨p,_,rfl,QW d.ok t a1 (n1 _ a) (λid hid=>by rw[a];exact n1.root id hid) (by rw[a];exact y),q,[],rfl,AR.less (xW w' g' (fill φ h) L) _ _ (by rw[qc];exact j) a2,rfl⟩
def jw (n:Int):List AV:=[.v (.int .u8 n)]
theorem V1 {n:Nat}:∀l:List Int,z6 n (l.map jw)=true
 | []=>rfl
 | s::l=>by
   rw[List.map_cons,z6,V1 l];rfl
theorem vqa (l:List Int):((l.map jw).all λr=>r.length==1 && r.all AV.one)=true:=by
 rw[List.all_eq_true]
 intro r a
 obtain ⟨s,_,rfl⟩:=List.mem_map.1 a
 rfl
def yW (n:Int) (j:Nat):Int:=IntKind.wrap .u8 (n.fdiv (2 ^ min (8*j) 64))
def xV (n:Int):Nat->List Int
 | 0=>[]
 | k+1=>yW n k::xV n k
theorem vq (n:Int):∀k,(xV n k).length=k
 | 0=>rfl
 | k+1=>by rw[xV,List.length_cons,vq n k]
theorem qOa (n:Int):0<=qE n/\qE n<=8:=by
 have a:0<=IntKind.wrap .u64 n/\IntKind.wrap .u64 n<=18446744073709551615:=by
  rw[IntKind.wrap_u64];omega
 have:=Go.Lib.bitLen_le (IntKind.wrap .u64 n).toNat 64 (by omega) (by omega)
 unfold qE
 rw[zt (n:=(Go.Lib.bitLen (IntKind.wrap .u64 n).toNat:Int)+7) (by unfold Fit;omega),Int.tdiv_eq_ediv_of_nonneg (by omega),zt (by unfold Fit;omega)]
 omega
def vQ (n:Int):List Int:=IntKind.wrap .u8 (qE n)::xV n (qE n).toNat
theorem Kh (n:Int):(vQ n).length<=9:=by
 have:=qOa n
 rw[vQ,List.length_cons,vq];omega
def vra (l:List Int):Bool:=l.any λn=>decide (n<0)
def ve (b ns:List Int):List Int × Int:=if vra ns then ([],50) else (b++ns.flatMap vQ,0)
theorem Zya (h:List Ob) (x y:AV) (b ns:List Int) (hx:SlOf h x 1 (b.map jw)) (hy:SlOf h y 1 (ns.map zH)) (hb:b.length<1073741824) (hn:ns.length<1048576):
  ACalls Tryz.prog 25 [x,y] h λr h'=>∃L z,h'=h++L/\NoRes L/\r= .tup [z,i64 (ve b ns).2]/\New h 1 z ((ve b ns).1.map jw) L:=by
 have hex:∃r h',(∃L z,h'=h++L/\NoRes L/\r=AV.tup [z,i64 (ve b ns).2]/\New h 1 z ((ve b ns).1.map jw) L)/\ResK h h':=
  ⟨_,_,⟨[],.sl 1 _,rfl,jF,rfl,λ_ _=>⟨rfl,λ_=>rfl⟩⟩,zT⟩
 refine vm (N:=41) (rs:=[.tmp 4,.tmp 5]) (fn:=Tryz.f25) rfl rfl rfl rfl (Nat.le_of_ble_eq_true rfl) rfl (hex) λB=>?_
 refine qC (by decide) ?_
 simp only[go_sem]
 refine vd (JW (λT' h'=>Pre h h'/\OwnS h h' 5 1 (T' 6) (b.map jw)/\T' 1=y) (by decide) ?_ ?_)
 ·simp only[go_sem]
  refine zd (zXa _ x _ hx (by rw[List.length_map];omega) (vqa b)) ?_
  rintro r h1 hr
  rcases hr with ⟨q1,rfl,rfl⟩ | ⟨rfl,rfl⟩
  ·simp only[go_sem]
   exact ⟨.refl,.inl ⟨rfl,q1⟩⟩
  ·simp only[go_sem]
   exact ⟨⟨_,rfl,zj rfl⟩,.inr ⟨h.length,1,Nat.le_refl _,rfl,by rw[zm rfl];rfl⟩⟩
 ·rintro T h' ⟨c,I,t1⟩
  have C:=(c.sl hy).rows
  refine qr _ (by decide) ?_
  simp only[go_sem,t1,C,List.length_map]
  refine zk (by decide) (λm T h'=>∃i:Nat,i<=ns.length/\vra (ns.take i)=false/\Pre h h'/\OwnS h h' 5 1 (T 6) ((b++(ns.take i).flatMap vQ).map jw)/\T 12=y/\T 13=i64 ns.length/\T 14=i64 i/\m=ns.length - i) ns.length
   ⟨0,by omega,rfl,c,by simp only[go_sem];simpa using I,by simp only[go_sem,t1],by (simp only[go_sem]<;>rfl),by (simp only[go_sem]<;>rfl),rfl⟩ ?_
  clear c I t1 C
  rintro m T h' ⟨i,hi,s,c,I,g,o,f,rfl⟩
  simp only[go_sem,o,f]
  refine ways (λe=>?_) (λe=>?_)
  ·have F:=dlt e
   have J:=Qz F
   have δ:=(c.sl hy).at (i:=i) (by rw[List.length_map];exact F)
   have C:=(c.sl hy).rows
   have ρ:(i:Int)<ns.length:=by omega
   have t:ns.take (i+1)=ns.take i++[ns[i]]:=(List.take_append_getElem F).symm
   have H:=List.getElem_mem F
   obtain ⟨z,hz⟩:∃z,z=ns[i]:=⟨_,rfl⟩
   rw[<-hz] at J t H
   simp only[go_sem,g,f,δ,C,J,ρ,List.length_map,Int.toNat_natCast,Int.natCast_nonneg]
   refine ways (λe2=>?_) (λe2=>?_)
   ·have X:vra ns=true:=List.any_eq_true.2 ⟨z,H,e2⟩
    have hp:ve b ns=([],50):=by unfold ve;rw[X];rfl
    rw[hp]
    simp only[go_sem]
    obtain ⟨L,Z,hN⟩:=c
    exact ⟨_,rfl,.inl ⟨L,_,Z,hN,rfl,λh2 _=>⟨rfl,λh=>absurd rfl h⟩⟩⟩
   ·have Y:decide (z<0)=false:=e2
    simp only[go_sem]
    refine zd (QUa z _) ?_
    rintro _ h2 ⟨rfl,e3⟩
    rw[e3]
    have hk:=qOa z
    obtain ⟨p,G⟩:∃p,p=b++(ns.take i).flatMap vQ:=⟨_,rfl⟩
    rw[<-G] at I
    have hPl:p.length<=1073741824+9*1048576:=by
     have:∀l:List Int,(l.flatMap vQ).length<=9*l.length:=λl=>by
      induction l with
      | nil=>simp
      | cons n l ih=>
        have:=Kh n
        rw[List.flatMap_cons,List.length_append,List.length_cons];omega
     have:=this (ns.take i)
     rw[List.length_take] at this
     rw[G,List.length_append];omega
    have W:(p.length+1)*2<=140737488355328:=by omega
    rcases I with ⟨t6,q⟩ | ⟨id,st,u1,t6,u3⟩
    ·have hP:p=[]:=by simpa using q
     simp only[go_sem,t6]
     have a:Pre h (h'++[.row 5 1 [jw (IntKind.wrap .u8 (qE z))] 0,.row 5 1 [jw (IntKind.wrap .u8 (qE z))] 0]):=c.app (zg rfl (zj rfl))
     have d:OwnS h (h'++[.row 5 1 [jw (IntKind.wrap .u8 (qE z))] 0,.row 5 1 [jw (IntKind.wrap .u8 (qE z))] 0]) 5 1 (.tl (h'.length+1) 0) ((p++[IntKind.wrap .u8 (qE z)]).map jw):= .inr ⟨_,0,by have:=c.len;omega,rfl,by rw[zl (k:=1) rfl,hP];rfl⟩
     have ν:((qE z).toNat:Int)=qE z:=by omega
     obtain ⟨k,V⟩:∃k,k=(qE z).toNat:=⟨_,rfl⟩
     have μ:k<=8:=by omega
     refine zk (by decide) (λm T E=>∃j:Nat,j<=k/\Pre h E/\(∃D,xV z k=D++xV z j/\OwnS h E 5 1 (T 6) ((p++[IntKind.wrap .u8 (qE z)]++D).map jw))/\T 8=i64 z/\T 9=i64 j/\T 12=y/\T 13=i64 ns.length/\T 14=i64 i/\m=j) k
      ⟨k,Nat.le_refl _,a,⟨[],rfl,by simp only[go_sem];exact d⟩,by simp only[go_sem],by rw[show ((k:Nat):Int)=qE z by omega];simp only[go_sem],by simp only[go_sem,g],by simp only[go_sem,o],by simp only[go_sem,f],rfl⟩ ?_
     clear a d g o f
     rintro m T E ⟨j,hj,a,⟨D,U,d⟩,t8,t9,g,o,f,rfl⟩
     simp only[go_sem,t9]
     refine ways (λP=>?_) (λP=>?_)
     ·have θ:0<m:=by have:=of_decide_eq_true P;omega
      obtain ⟨j,rfl⟩:∃j,m=j+1:=⟨m - 1,by omega⟩
      have w1:IntKind.wrap .i64 (((j+1:Nat):Int) - 1)=(j:Int):=(zt (n:=((j+1:Nat):Int) - 1) (by unfold Fit;omega)).trans (by omega)
      have w2:IntKind.wrap .i64 (8*(j:Int))=8*(j:Int):=zt (n:=8*(j:Int)) (by unfold Fit;omega)
      have w3:0<=8*(j:Int):=by omega
      have w4:(8*(j:Int)).toNat=8*j:=by omega
      have O:xV z k=(D++[yW z j])++xV z j:=by rw[U,xV];simp
      have K:=congrArg List.length U
      rw[List.length_append,vq,vq] at K
      have Q:IntKind.wrap .u8 (z.fdiv (2 ^ min (8*j) 64))=yW z j:=rfl
      have S:(p.length+(D.length+1)+1)*2<=140737488355328:=by omega
      rcases d with ⟨_,q⟩ | ⟨u,v,v1,t6,v3⟩
      ·simp at q
      ·have A:∀M,(E++M)[u]? =some (.row 5 1 ((p++[IntKind.wrap .u8 (qE z)]++D).map jw) v):=λM=>zb v3
       simp only[go_sem,t6,t8,t9,w1,w2,w3,w4,Q,A,S,List.length_map]
       refine ⟨j,by omega,j,by omega,(a.app (zj rfl)).set v1 rfl,⟨D++[yW z j],O,.inr ⟨u,v+1,v1,rfl,?_⟩⟩,rfl,g,o,f,rfl⟩
       have e6:(p++IntKind.wrap .u8 (qE z)::(D++[yW z j])).map jw=(p++IntKind.wrap .u8 (qE z)::D).map jw++[jw (yW z j)]:=by simp
       rw[e6]
       exact zh (A _)
     ·have R:m=0:=by have:=of_decide_eq_false P;omega
      subst R
      have w:p++[IntKind.wrap .u8 (qE z)]++D=b++(ns.take (i+1)).flatMap vQ:=by
       rw[t,List.flatMap_append, <-List.append_assoc, <-G]
       have:D=xV z k:=by rw[U];simp[xV]
       rw[this,V]
       simp[vQ]
      rw[w] at d
      simp only[go_sem,f]
      exact ⟨ns.length - (i+1),by omega,i+1,by omega,by rw[t];unfold vra at s ⊢;rw[List.any_append,s];simp[Y],a,d,g,o,zy (by omega) rfl,rfl⟩
    ·have hg:∀M,(h'++M)[id]? =some (.row 5 1 (p.map jw) st):=λM=>zb u3
     simp only[go_sem,t6,hg,W,List.length_map]
     have a:Pre h ((h'++[Ob.row 5 1 [jw (IntKind.wrap .u8 (qE z))] 0]).set id (.row 5 1 (p.map jw++[jw (IntKind.wrap .u8 (qE z))]) (st+1))):=(c.app (zj rfl)).set u1 rfl
     have d:OwnS h ((h'++[Ob.row 5 1 [jw (IntKind.wrap .u8 (qE z))] 0]).set id (.row 5 1 (p.map jw++[jw (IntKind.wrap .u8 (qE z))]) (st+1))) 5 1 (.tl id (st+1)) ((p++[IntKind.wrap .u8 (qE z)]).map jw):= .inr ⟨id,st+1,u1,rfl,by rw[List.map_append];exact zh (hg _)⟩
     have ν:((qE z).toNat:Int)=qE z:=by omega
     obtain ⟨k,V⟩:∃k,k=(qE z).toNat:=⟨_,rfl⟩
     have μ:k<=8:=by omega
     refine zk (by decide) (λm T E=>∃j:Nat,j<=k/\Pre h E/\(∃D,xV z k=D++xV z j/\OwnS h E 5 1 (T 6) ((p++[IntKind.wrap .u8 (qE z)]++D).map jw))/\T 8=i64 z/\T 9=i64 j/\T 12=y/\T 13=i64 ns.length/\T 14=i64 i/\m=j) k
      ⟨k,Nat.le_refl _,a,⟨[],rfl,by simp only[go_sem];exact d⟩,by simp only[go_sem],by rw[show ((k:Nat):Int)=qE z by omega];simp only[go_sem],by simp only[go_sem,g],by simp only[go_sem,o],by simp only[go_sem,f],rfl⟩ ?_
     clear a d g o f
     rintro m T E ⟨j,hj,a,⟨D,U,d⟩,t8,t9,g,o,f,rfl⟩
     simp only[go_sem,t9]
     refine ways (λP=>?_) (λP=>?_)
     ·have θ:0<m:=by have:=of_decide_eq_true P;omega
      obtain ⟨j,rfl⟩:∃j,m=j+1:=⟨m - 1,by omega⟩
      have w1:IntKind.wrap .i64 (((j+1:Nat):Int) - 1)=(j:Int):=(zt (n:=((j+1:Nat):Int) - 1) (by unfold Fit;omega)).trans (by omega)
      have w2:IntKind.wrap .i64 (8*(j:Int))=8*(j:Int):=zt (n:=8*(j:Int)) (by unfold Fit;omega)
      have w3:0<=8*(j:Int):=by omega
      have w4:(8*(j:Int)).toNat=8*j:=by omega
      have O:xV z k=(D++[yW z j])++xV z j:=by rw[U,xV];simp
      have K:=congrArg List.length U
      rw[List.length_append,vq,vq] at K
      have Q:IntKind.wrap .u8 (z.fdiv (2 ^ min (8*j) 64))=yW z j:=rfl
      have S:(p.length+(D.length+1)+1)*2<=140737488355328:=by omega
      rcases d with ⟨_,q⟩ | ⟨u,v,v1,t6,v3⟩
      ·simp at q
      ·have A:∀M,(E++M)[u]? =some (.row 5 1 ((p++[IntKind.wrap .u8 (qE z)]++D).map jw) v):=λM=>zb v3
       simp only[go_sem,t6,t8,t9,w1,w2,w3,w4,Q,A,S,List.length_map]
       refine ⟨j,by omega,j,by omega,(a.app (zj rfl)).set v1 rfl,⟨D++[yW z j],O,.inr ⟨u,v+1,v1,rfl,?_⟩⟩,rfl,g,o,f,rfl⟩
       have e6:(p++IntKind.wrap .u8 (qE z)::(D++[yW z j])).map jw=(p++IntKind.wrap .u8 (qE z)::D).map jw++[jw (yW z j)]:=by simp
       rw[e6]
       exact zh (A _)
     ·have R:m=0:=by have:=of_decide_eq_false P;omega
      subst R
      have w:p++[IntKind.wrap .u8 (qE z)]++D=b++(ns.take (i+1)).flatMap vQ:=by
       rw[t,List.flatMap_append, <-List.append_assoc, <-G]
       have:D=xV z k:=by rw[U];simp[xV]
       rw[this,V]
       simp[vQ]
      rw[w] at d
      simp only[go_sem,f]
      exact ⟨ns.length - (i+1),by omega,i+1,by omega,by rw[t];unfold vra at s ⊢;rw[List.any_append,s];simp[Y],a,d,g,o,zy (by omega) rfl,rfl⟩
  ·have hge:=jd e
   have α:i=ns.length:=by omega
   subst α
   rw[List.take_length] at s I
   have hp:ve b ns=(b++ns.flatMap vQ,0):=by unfold ve;rw[s];rfl
   rw[hp]
   simp only[go_sem]
   obtain ⟨L,Z,hN⟩:=c
   rw[Z] at I
   exact ⟨_,rfl,.inl ⟨L,_,Z,hN,rfl,I.new (Nat.le_refl _)⟩⟩
theorem QVa (h:List Ob) (x y:AV) (b ns:List Int) (a:SlOf h x 1 (b.map jw)) (e:SlOf h y 1 (ns.map zH)) (d:b.length<1073741824) (c:ns.length<1048576):
  ACalls Tryz.prog 25 [x,y] h λr h'=>r= .tup [.sl 1 ((ve b ns).1.map jw),i64 (ve b ns).2]/\h'=h:=
 Kz (by decide) rfl (V1 _) (Zya h x y b ns a e d c)
set_option maxRecDepth 100000
def Sb (z:AV) (b:List Int):Prop:=z= .sl 1 (b.map jw)∨z= .v (.slice none 0 0)/\b=[]
theorem Sb.sl {h:List Ob} {z:AV} {b:List Int} (k:Sb z b):SlOf h z 1 (b.map jw):=by
 rcases k with rfl | ⟨rfl,rfl⟩
 ·exact ⟨rfl,λ_=>rfl⟩
 ·exact ⟨rfl,λh=>absurd rfl h⟩
theorem Sb.lt {n:Nat} {z:AV} {b:List Int} (k:Sb z b):z.lt n=true:=by
 rcases k with rfl | ⟨rfl,rfl⟩
 ·exact V1 _
 ·rfl
def Zk (q:List Int × Bool) (n:Int):List Int × Bool:=(if q.2 && (ve q.1 [n]).2==0 then (ve q.1 [n]).1 else q.1,q.2 && (ve q.1 [n]).2==0)
def jx (q:List Int × Bool) (ns:List Int):List Int × Bool:=ns.foldl Zk q
theorem YB (q:List Int × Bool) (n:Int):(Zk q n).1.length<=q.1.length+9:=by
 have:=Kh n
 have a:(ve q.1 [n]).1.length<=q.1.length+9:=by
  unfold ve
  split
  ·simp
  ·simp only[List.length_append,List.flatMap_cons,List.flatMap_nil,List.append_nil];omega
 unfold Zk
 simp only
 split
 ·exact a
 ·omega
theorem yX:∀(ns:List Int) (q:List Int × Bool),(jx q ns).1.length<=q.1.length+9*ns.length
 | [],q=>by simp[jx]
 | n::ns,q=>by
   have b:=YB q n
   have a:=yX ns (Zk q n)
   rw[jx,List.foldl_cons,List.length_cons]
   unfold jx at a
   omega
theorem xda {q:List Int × Bool} {ns:List Int} {i:Nat} (h:i<ns.length):jx q (ns.take (i+1))=Zk (jx q (ns.take i)) ns[i]:=by
 unfold jx
 rw[show ns.take (i+1)=ns.take i++[ns[i]] from (List.take_append_getElem h).symm,List.foldl_append];rfl
def QWa (h:List Ob) (i:Nat) (p:AV) (n:Int):Prop:=∃id off ty a,p= .ptr id off/\id≠i/\h[id]? =some (.box ty a)/\off<a.length/\nth a off=i64 n
theorem JQa (h:List Ob) (i:Nat) (z:AV) (b:List Int) (ok:Bool) (x:AV) (d:List (AV × Int)) (K:h[i]? =some (.box 99 [z,bl ok])) (hz:Sb z b) (hx:SlOf h x 1 (d.map λp=>[p.1])) (hp:∀p∈d,QWa h i p.1 p.2) (hb:b.length<536870912) (hn:d.length<1048576):
  ACalls Tryz.prog 41 [.ptr i 0,x] h λr h'=>r= .tup []/\∃u,Sb u (jx (b,ok) (d.map (·.2))).1/\h'=h.set i (.box 99 [u,bl (jx (b,ok) (d.map (·.2))).2]):=by
 have hex:∃r h',(r=AV.tup []/\∃u,Sb u (jx (b,ok) (d.map (·.2))).1/\h'=h.set i (.box 99 [u,bl (jx (b,ok) (d.map (·.2))).2]))/\ResK h h':=
  ⟨_,_,⟨rfl,_,.inl rfl,rfl⟩,zJ K rfl⟩
 refine zf Tryz.f41 [] 46 rfl rfl rfl rfl rfl rfl (by decide) (hex) λB=>?_
 simp only[go_sem,hx.rows,List.length_map]
 obtain ⟨ns,w⟩:∃ns,ns=d.map (·.2):=⟨_,rfl⟩
 have δ:ns.length=d.length:=by rw[w];simp
 have U:=λj=>yX (ns.take j) (b,ok)
 rw[<-w]
 have I:=(List.getElem?_eq_some_iff.1 K).1
 refine zk (by decide) (λm T h'=>∃(j:Nat) (u:AV) (L:List Ob),j<=d.length/\Sb u (jx (b,ok) (ns.take j)).1/\h'=h.set i (.box 99 [u,bl (jx (b,ok) (ns.take j)).2])++L/\NoRes L/\T 0= .ptr i 0/\T 8=x/\T 9=i64 d.length/\T 10=i64 j/\m=d.length - j) d.length
  ⟨0,z,[],by omega,hz,by rw[List.append_nil];exact (zW K).symm,jF,by simp only[go_sem],by simp only[go_sem],by (simp only[go_sem]<;>rfl),by (simp only[go_sem]<;>rfl),rfl⟩ ?_
 rintro m T h' ⟨j,y,L,hj,f,rfl,Y,t0,t8,t9,t10,rfl⟩
 simp only[go_sem,t9,t10]
 refine ways (λe=>?_) (λe=>?_)
 ·have A:=dlt e
  have t:(d.map λp=>[p.1])[j]? =some [d[j].1]:=by rw[List.getElem?_map,List.getElem?_eq_getElem A];rfl
  have γ:(j:Int)<d.length:=by omega
  have a:=xda (q:=(b,ok)) (ns:=ns) (i:=j) (by omega)
  have Z:ns[j]'(by omega)=d[j].2:=by simp[w]
  obtain ⟨id,off,ty,cs,p1,p2,p3,p4,p5⟩:=hp d[j] (List.getElem_mem A)
  have D:=U j
  rw[Z] at a
  obtain ⟨n,P⟩:∃n,n=d[j].2:=⟨_,rfl⟩
  obtain ⟨pt,α⟩:∃pt,pt=d[j].1:=⟨_,rfl⟩
  rw[<-P] at a p5
  rw[<-α] at t p1
  subst p1
  obtain ⟨Q,hQ⟩:∃Q,Q=jx (b,ok) (ns.take j):=⟨_,rfl⟩
  rw[<-hQ] at a f D⊢
  have θ:Q.1.length<1073741824:=by
   simp only[List.length_take] at D
   omega
  obtain ⟨H,C⟩:∃H,H=h.set i (.box 99 [y,bl Q.2])++L:=⟨_,rfl⟩
  have E:H[i]? =some (.box 99 [y,bl Q.2]):=by rw[C];exact zb (List.getElem?_set_self I)
  have S:H[id]? =some (.box ty cs):=by rw[C];exact zb (by rw[List.getElem?_set_ne (Ne.symm p2)];exact p3)
  have F:SlOf H x 1 (d.map λp=>[p.1]):=by rw[C];exact (hx.keep (.setB K)).app _
  have V:∀o,H.set i o=h.set i o++L:=λo=>by rw[C,List.set_append_left _ _ (by rw[List.length_set];exact I),List.set_set]
  rw[<-C]
  clear C
  have O:=F.rows
  have W:=F.at (i:=j) (by rw[List.length_map];exact A)
  have c:∀M,(H++M)[i]? =some (.box 99 [y,bl Q.2]):=λM=>zb E
  have s:∀M,(H++M)[id]? =some (.box ty cs):=λM=>zb S
  have k:=(f.sl (h:=h)).one
  have g:=(f.sl (h:=h)).cells
  simp only[go_sem,t0,t8,t10,O,W,t,γ,List.length_map,Int.toNat_natCast,Int.natCast_nonneg]
  refine zp rfl [.res] 1 [(0,0,[]),(1,0,[]),(2,0,[]),(4,0,[]),(5,0,[]),(3,0,[]),(6,0,[]),(7,0,[]),(8,0,[]),(9,0,[]),(10,0,[]),(11,0,[]),(12,0,[]),(13,0,[])] rfl (by decide) (by decide) ?_
  simp only[go_sem,t0,c,s,p4,p5,k,g]
  refine zd (QVa _ y _ Q.1 [n] f.sl ⟨by rw[zO,zm rfl];rfl,λ_=>by rw[qJ,zm rfl];rfl⟩ (by omega) (by show 1<1048576;decide)) ?_
  rintro _ h3 ⟨rfl,e3⟩
  rw[e3]
  obtain ⟨R,hR⟩:∃R,R=ve Q.1 [n]:=⟨_,rfl⟩
  rw[<-hR]
  simp only[go_sem,t0,c,s,p4,p5,k,g]
  have G:Zk Q n=(if Q.2 && R.2==0 then R.1 else Q.1,Q.2 && R.2==0):=by rw[hR];rfl
  rw[G] at a
  have v:∀o M,((H++M).set i o)[i]? =some o:=λo M=>zh (c M)
  have l:∀o M,(H++M).set i o=h.set i o++(L++M):=λo M=>by
   rw[List.set_append_left _ _ (by exact (List.getElem?_eq_some_iff.1 E).1),V,List.append_assoc]
  cases J:Q.2
  ·rw[J] at a c
   simp only[Bool.false_and,Bool.false_eq_true,if_false] at a
   simp only[go_sem,J,zM,t0,t10,c,v,k,g]
   exact ⟨d.length - (j+1),by omega,j+1,y,L++[.row 3 1 [[i64 n]] 0],by omega,by rw[a];exact f,by rw[a];exact l _ _,Y.app (zj rfl),t8,t9,zy (by omega) rfl,rfl⟩
  ·rw[J] at a c
   simp only[Bool.true_and] at a
   cases N:R.2==0
   ·rw[N] at a
    simp only[Bool.false_eq_true,if_false] at a
    simp only[go_sem,J,N,zM,t0,t10,c,v,k,g]
    exact ⟨d.length - (j+1),by omega,j+1,y,L++[.row 3 1 [[i64 n]] 0],by omega,by rw[a];exact f,by rw[a];exact l _ _,Y.app (zj rfl),t8,t9,zy (by omega) rfl,rfl⟩
   ·rw[N] at a
    simp only[if_true] at a
    simp only[go_sem,J,N,zM,t0,t10,c,v,k,g,List.set_set]
    exact ⟨d.length - (j+1),by omega,j+1,.sl 1 (R.1.map jw),L++[.row 3 1 [[i64 n]] 0],by omega,by rw[a];exact .inl rfl,by rw[a];exact l _ _,Y.app (zj rfl),t8,t9,zy (by omega) rfl,rfl⟩
 ·have ξ:=jd e
  have X:j=d.length:=by omega
  subst X
  rw[<-δ,List.take_length] at f⊢
  simp only[go_sem]
  exact ⟨.tup [],rfl,.inr ⟨_,L,rfl,by rw[List.length_set],rfl,KeepLt.set .refl rfl (by simp only[Kj,zP,f.lt,AV.lt,Bool.and_self]),rfl,y,f,rfl⟩⟩
set_option maxRecDepth 100000
structure Cm where
 kind:Int
 fx:Fx
 worker:Int
 week:Int
 last:Int
section
variable {h:List Ob} {d:Nat} {s:Setup} {a:SA} {x c:AV} {err:Int} {rows segs bytes:AV} {q:Cm}
end
set_option maxRecDepth 100000
def frA (s:Setup):SA:=⟨.sl 3 (s.ways.map QI),.sl 4 (s.elements.map QJ),.sl 2 (s.classes.map qv),.sl 2 (s.gears.map qv),.sl 1 (s.rates.map zH),.sl 2 (s.tiers.map qv)⟩
structure SFew (s:Setup):Prop where
 w:s.ways.length<1099511627776
 e:s.elements.length<1099511627776
 c:s.classes.length<1099511627776
 g:s.gears.length<1099511627776
 r:s.rates.length<1099511627776
 t:s.tiers.length<1099511627776
abbrev yra (s:Setup) (a:SA) (x c:AV):List AV:=[i64 s.places,a.w,i64 s.pace.1,i64 s.pace.2,a.e,a.c,a.g,i64 s.allow,i64 s.unit,i64 s.cap,i64 s.paidBreak,i64 s.autoAfter,i64 s.autoBreak,
 i64 s.dayReg,i64 s.dayOver,i64 s.weekReg,i64 s.nightFrom,i64 s.nightTo,a.r,i64 s.diff,i64 s.least,i64 s.fault,a.t,x,c]
def JB:AV:= .v (.slice none 0 0)
def zS:Setup:=⟨0,[],(0,0),[],[],[],0,0,0,0,0,0,0,0,0,0,0,[],0,0,0,[]⟩
def zA:SA:=⟨JB,JB,JB,JB,JB,JB⟩
set_option maxRecDepth 100000
theorem wK (q:List Int × Bool) (a b:List Int):jx q (a++b)=jx (jx q a) b:=by unfold jx;rw[List.foldl_append]
structure PnH (h:List Ob) (i:Nat) (Q:List Int × Bool) (H:List Ob):Prop where
 eq:∃z L,Sb z Q.1/\H=h.set i (.box 99 [z,bl Q.2])++L/\NoRes L
theorem PnH.app {h:List Ob} {i:Nat} {Q:List Int × Bool} {H:List Ob} (k:PnH h i Q H) {M:List Ob} (a:NoRes M):PnH h i Q (H++M):=by
 obtain ⟨z,L,k1,k2,k3⟩:=k.eq
 exact ⟨z,L++M,k1,by rw[k2,List.append_assoc],k3.app a⟩
theorem PnH.get {h:List Ob} {i:Nat} {Q:List Int × Bool} {H:List Ob} (k:PnH h i Q H) {m:Nat} {o:Ob} (a:m≠i) (b:h[m]? =some o):H[m]? =some o:=by
 obtain ⟨z,L,k1,k2,k3⟩:=k.eq
 rw[k2]
 exact zb (by rw[List.getElem?_set_ne (Ne.symm a)];exact b)
theorem Ki {h H:List Ob} {i:Nat} {Q:List Int × Bool} (k:PnH h i Q H) (a:i<h.length) (x:AV) (b:List (AV × Int)) (g:SlOf H x 1 (b.map λp=>[p.1])) (f:∀p∈b,QWa H i p.1 p.2) (e:Q.1.length<536870912) (q:b.length<1048576):
  ACalls Tryz.prog 41 [.ptr i 0,x] H λr h'=>r= .tup []/\PnH h i (jx Q (b.map (·.2))) h'/\∀m o,m≠i->H[m]? =some o->h'[m]? =some o:=by
 obtain ⟨z,L,k1,k2,k3⟩:=k.eq
 have c:H[i]? =some (.box 99 [z,bl Q.2]):=by rw[k2];exact zb (List.getElem?_set_self a)
 refine (JQa H i z Q.1 Q.2 x b c k1 g f e q).mono ?_
 rintro r h' ⟨rfl,d,l,rfl⟩
 refine ⟨rfl,⟨d,L,l,?_,k3⟩,λm o j n=>by rw[List.getElem?_set_ne (Ne.symm j)];exact n⟩
 rw[k2,List.set_append_left _ _ (by rw[List.length_set];exact a),List.set_set]
def ZW (R:RowV):List Int:=[R.tot 0,R.tot 1,R.tot 2,R.tot 3,R.tot 4,R.tot 5,R.tot 6]
def Zu (R:RowV):List Int:=[R.pays 0,R.pays 1,R.pays 2,R.pays 3,R.pays 4,R.pays 5,R.pays 6]
def vR (R:RowV):List Int:=[R.worker,R.week,R.err]++ZW R++Zu R++[R.earned.1,R.earned.2,R.perf.1,R.perf.2,R.elig,wr (R.tier+1),R.extra,R.supp,R.total]
theorem Zza (R:RowV) (a:AV) {k:Nat} (b:k<7):nth (jL R a) (3+k)=i64 (R.tot k)/\(ZW R)[k]? =some (R.tot k):=by
 have:k=0∨k=1∨k=2∨k=3∨k=4∨k=5∨k=6:=by omega
 rcases this with rfl | rfl | rfl | rfl | rfl | rfl | rfl<;>exact ⟨rfl,rfl⟩
theorem wXa (R:RowV) (a:AV) {k:Nat} (b:k<7):nth (jL R a) (10+k)=i64 (R.pays k)/\(Zu R)[k]? =some (R.pays k):=by
 have:k=0∨k=1∨k=2∨k=3∨k=4∨k=5∨k=6:=by omega
 rcases this with rfl | rfl | rfl | rfl | rfl | rfl | rfl<;>exact ⟨rfl,rfl⟩
theorem Vi {l:List Int} {k:Nat} {n:Int} (h:l[k]? =some n):l.take (k+1)=l.take k++[n]:=by
 obtain ⟨b,a⟩:=List.getElem?_eq_some_iff.1 h
 rw[<-a];exact (List.take_append_getElem b).symm
theorem ZAa (h:List Ob) (i j:Nat) (z:AV) (Q:List Int × Bool) (R:RowV) (G:AV) (a:j≠i) (J:h[i]? =some (.box 99 [z,bl Q.2])) (W:Sb z Q.1) (y:h[j]? =some (.box 45 (jL R G))) (S:Fit R.tier/\Fit (R.tier+1)) (U:AV.one G=true) (hQ:Q.1.length<268435456):
  ACalls Tryz.prog 45 [.ptr j 0,.fn (.func 41) [.ptr i 0] []] h λr h'=>r= .tup []/\PnH h i (jx Q (vR R)) h':=by
 have q:=(List.getElem?_eq_some_iff.1 J).1
 have hex:∃r h',(r=AV.tup []/\PnH h i (jx Q (vR R)) h')/\ResK h h':=
  ⟨_,h.set i (.box 99 [.sl 1 ((jx Q (vR R)).1.map jw),bl (jx Q (vR R)).2]),⟨rfl,_,[],.inl rfl,by simp,jF⟩,zJ J rfl⟩
 have base:PnH h i Q h:=⟨z,[],W,by rw[List.append_nil];exact (zW J).symm,jF⟩
 have u:=λns=>yX ns Q
 refine zf Tryz.f45 [] 90 rfl rfl rfl rfl rfl rfl (by decide) (hex) λB=>?_
 simp only[go_sem,y]
 refine zp rfl [.res] 1 [(0,0,[]),(1,0,[]),(2,0,[]),(3,0,[]),(4,0,[]),(5,0,[]),(6,0,[]),(7,0,[]),(8,0,[])] rfl (by decide) (by decide) ?_
 simp only[go_sem]
 have k0:=base.app (M:=[.box 3 [i64 R.err],.row 101 1 [[.ptr j 0],[.ptr j 1],[.ptr h.length 0]] 0]) (zg rfl (zj rfl))
 have o:=k0.get a y
 have v:(h++[Ob.box 3 [i64 R.err],.row 101 1 [[.ptr j 0],[.ptr j 1],[.ptr h.length 0]] 0])[h.length]? =some (.box 3 [i64 R.err]):=by rw[zm rfl];rfl
 refine zd (Ki k0 q (.tl (h.length+1) 0) [(.ptr j 0,R.worker),(.ptr j 1,R.week),(.ptr h.length 0,R.err)] ⟨by rw[zO,zl (k:=1) rfl];rfl,λ_=>by rw[qJ,zl (k:=1) rfl];rfl⟩ (λp d=>by
  rcases List.mem_cons.1 d with rfl | d
  ·exact ⟨j,0,_,_,rfl,a,o,by show 0<27;decide,rfl⟩
  rcases List.mem_cons.1 d with rfl | d
  ·exact ⟨j,1,_,_,rfl,a,o,by show 1<27;decide,rfl⟩
  rw[List.mem_singleton] at d
  subst d
  exact ⟨h.length,0,_,_,rfl,by omega,v,by show 0<1;decide,rfl⟩) (by omega) (by show 3<1048576;decide)) ?_
 rintro _ H1 ⟨rfl,k1,N⟩
 have b:=N j _ a o
 have C:=N h.length _ (by omega) v
 simp only[go_sem,b,C]
 rw[zW b]
 refine zk (by decide) (λm T H=>∃n:Nat,n<=7/\PnH h i (jx Q ([R.worker,R.week,R.err]++(ZW R).take n)) H/\T 0= .ptr j 0/\T 1= .fn (.func 41) [.ptr i 0] []/\T 25=i64 n/\m=7 - n) 7
  ⟨0,by omega,k1,by simp only[go_sem],by simp only[go_sem],by (simp only[go_sem]<;>rfl),rfl⟩ ?_
 clear k0 k1 o b v C N
 rintro m T H ⟨n,hn,l,t0,t1,t25,rfl⟩
 simp only[go_sem,t25]
 refine ways (λe=>?_) (λe=>?_)
 ·have w:(n:Int)<7:=of_decide_eq_true e
  have c:n<7:=by omega
  have g:=l.get a y
  obtain ⟨I,L⟩:=Zza R G c
  simp only[go_sem,t0,t1,t25,w,c,Nat.mul_one,Int.toNat_natCast,Int.natCast_nonneg]
  have f:=l.app (M:=[.row 101 1 [[.ptr j (3+n)]] 0]) (zj rfl)
  have A:=u ([R.worker,R.week,R.err]++(ZW R).take n)
  have s:([R.worker,R.week,R.err]++(ZW R).take n).length<=10:=by simp[ZW];omega
  refine zd (Ki f q (.tl H.length 0) [(.ptr j (3+n),R.tot n)] ⟨by rw[zO,zm rfl];rfl,λ_=>by rw[qJ,zm rfl];rfl⟩ (λp d=>by
   rw[List.mem_singleton] at d
   subst d
   exact ⟨j,3+n,_,_,rfl,a,zb g,by show 3+n<27;omega,I⟩) (by omega) (by show 1<1048576;decide)) ?_
  rintro _ P ⟨rfl,k2,F⟩
  rw[<-wK] at k2
  simp only[go_sem,t25]
  exact ⟨7 - (n+1),by omega,n+1,by omega,by rw[Vi L];simpa using k2,t0,t1,zy (by omega) rfl,rfl⟩
 ·have O:¬ (n:Int)<7:=of_decide_eq_false e
  have x:n=7:=by omega
  subst x
  simp only[go_sem]
  refine zk (by decide) (λm T H=>∃n:Nat,n<=7/\PnH h i (jx Q ([R.worker,R.week,R.err]++ZW R++(Zu R).take n)) H/\T 0= .ptr j 0/\T 1= .fn (.func 41) [.ptr i 0] []/\T 37=i64 n/\m=7 - n) 7
   ⟨0,by omega,by simpa [ZW] using l,by simp only[go_sem,t0],by simp only[go_sem,t1],by (simp only[go_sem]<;>rfl),rfl⟩ ?_
  clear l t0 t1 t25
  rintro m T H ⟨n,hn,l,t0,t1,t,rfl⟩
  simp only[go_sem,t]
  refine ways (λe=>?_) (λe=>?_)
  ·have w:(n:Int)<7:=of_decide_eq_true e
   have c:n<7:=by omega
   have g:=l.get a y
   obtain ⟨I,L⟩:=wXa R G c
   simp only[go_sem,t0,t1,t,w,c,Nat.mul_one,Int.toNat_natCast,Int.natCast_nonneg]
   have f:=l.app (M:=[.row 101 1 [[.ptr j (10+n)]] 0]) (zj rfl)
   have A:=u ([R.worker,R.week,R.err]++ZW R++(Zu R).take n)
   have s:([R.worker,R.week,R.err]++ZW R++(Zu R).take n).length<=17:=by simp[ZW,Zu];omega
   refine zd (Ki f q (.tl H.length 0) [(.ptr j (10+n),R.pays n)] ⟨by rw[zO,zm rfl];rfl,λ_=>by rw[qJ,zm rfl];rfl⟩ (λp d=>by
    rw[List.mem_singleton] at d
    subst d
    exact ⟨j,10+n,_,_,rfl,a,zb g,by show 10+n<27;omega,I⟩) (by omega) (by show 1<1048576;decide)) ?_
   rintro _ P ⟨rfl,k2,F⟩
   rw[<-wK] at k2
   simp only[go_sem,t]
   exact ⟨7 - (n+1),by omega,n+1,by omega,by rw[Vi L];simpa using k2,t0,t1,zy (by omega) rfl,rfl⟩
  ·have O:¬ (n:Int)<7:=of_decide_eq_false e
   have x:n=7:=by omega
   subst x
   have g:=l.get a y
   simp only[go_sem,t0,g]
   refine zp rfl [.res] 1 [(0,0,[]),(1,0,[]),(2,0,[]),(3,0,[]),(4,0,[]),(5,0,[]),(6,0,[]),(7,0,[]),(8,0,[]),(9,0,[]),(10,0,[]),(11,0,[]),(12,0,[]),(13,0,[]),(14,0,[]),(15,0,[]),(16,0,[]),(17,0,[]),(18,0,[]),(19,0,[]),(20,0,[]),(21,0,[]),(22,0,[]),(23,0,[]),(24,0,[]),(25,0,[]),(26,0,[]),(27,0,[]),(28,0,[]),(29,0,[]),(30,0,[])] rfl (by decide) (by decide) ?_
   simp only[go_sem,t0,t1]
   have Y:IntKind.wrap .i64 (R.tier+1)=R.tier+1:=zt (n:=R.tier+1) S.2
   have f:=l.app (M:=[.box 3 [i64 (wr (R.tier+1))],.row 101 1 [[.ptr j 17],[.ptr j 18],[.ptr j 19],[.ptr j 20],[.ptr j 21],[.ptr H.length 0],[.ptr j 23],[.ptr j 24],[.ptr j 25]] 0]) (zg rfl (zj rfl))
   have X:i<H.length:=by
    obtain ⟨z0,L0,_,V,_⟩:=l.eq
    rw[V,List.length_append,List.length_set];omega
   have b:=f.get a y
   have D:(H++[Ob.box 3 [i64 (wr (R.tier+1))],.row 101 1 [[.ptr j 17],[.ptr j 18],[.ptr j 19],[.ptr j 20],[.ptr j 21],[.ptr H.length 0],[.ptr j 23],[.ptr j 24],[.ptr j 25]] 0])[H.length]? =some (.box 3 [i64 (wr (R.tier+1))]):=by rw[zm rfl];rfl
   have A:=u ([R.worker,R.week,R.err]++ZW R++(Zu R).take 7)
   have s:([R.worker,R.week,R.err]++ZW R++(Zu R).take 7).length<=17:=by simp[ZW,Zu]
   refine zd (Ki f q (.tl (H.length+1) 0) [(.ptr j 17,R.earned.1),(.ptr j 18,R.earned.2),(.ptr j 19,R.perf.1),(.ptr j 20,R.perf.2),(.ptr j 21,R.elig),(.ptr H.length 0,wr (R.tier+1)),(.ptr j 23,R.extra),(.ptr j 24,R.supp),(.ptr j 25,R.total)]
    ⟨by rw[zO,zl (k:=1) rfl];rfl,λ_=>by rw[qJ,zl (k:=1) rfl];rfl⟩ (λp d=>by
    simp only[List.mem_cons,List.not_mem_nil,or_false] at d
    rcases d with rfl | rfl | rfl | rfl | rfl | rfl | rfl | rfl | rfl
    ·exact ⟨j,17,_,_,rfl,a,b,by show 17<27;decide,rfl⟩
    ·exact ⟨j,18,_,_,rfl,a,b,by show 18<27;decide,rfl⟩
    ·exact ⟨j,19,_,_,rfl,a,b,by show 19<27;decide,rfl⟩
    ·exact ⟨j,20,_,_,rfl,a,b,by show 20<27;decide,rfl⟩
    ·exact ⟨j,21,_,_,rfl,a,b,by show 21<27;decide,rfl⟩
    ·exact ⟨H.length,0,_,_,rfl,by omega,D,by show 0<1;decide,rfl⟩
    ·exact ⟨j,23,_,_,rfl,a,b,by show 23<27;decide,rfl⟩
    ·exact ⟨j,24,_,_,rfl,a,b,by show 24<27;decide,rfl⟩
    ·exact ⟨j,25,_,_,rfl,a,b,by show 25<27;decide,rfl⟩) (by omega) (by show 9<1048576;decide)) ?_
   rintro _ P ⟨rfl,k2,F⟩
   have E:=F j _ a b
   have K:=F H.length _ (by omega) D
   have Z:IntKind.wrap .i64 (wr (R.tier+1) - 1)=R.tier:=by
    rw[show wr (R.tier+1)=R.tier+1 from Y]
    exact (zt (n:=R.tier+1 - 1) (by have:=S.1;unfold Fit at *; omega)).trans (by omega)
   rw[<-wK] at k2
   simp only[go_sem,t0,E,K,Z]
   rw[zW E]
   exact ⟨_,rfl,.inl ⟨rfl,by simpa [vR,Zu,ZW] using k2⟩⟩
set_option maxRecDepth 100000
theorem PnH.base {h M:List Ob} {i:Nat} {Q:List Int × Bool} {H:List Ob} (k:PnH (h++M) i Q H) (a:i<h.length) (b:NoRes M):PnH h i Q H:=by
 obtain ⟨z,L,k1,k2,k3⟩:=k.eq
 exact ⟨z,M++L,k1,by rw[k2,List.set_append_left _ _ a,List.append_assoc],b.app k3⟩
theorem PnH.sl {h:List Ob} {i:Nat} {Q:List Int × Bool} {H:List Ob} (k:PnH h i Q H) {t:TypeId} {c:List AV} (a:h[i]? =some (.box t c)) {x:AV} {e:Nat} {rows:List (List AV)} (b:SlOf h x e rows):SlOf H x e rows:=by
 obtain ⟨z,L,k1,k2,k3⟩:=k.eq
 rw[k2]
 exact (b.keep (.setB a)).app _
def Zv (F:List Flg):List Int:=F.flatMap λf=>[f.id,f.kind]
theorem Q8:∀F:List Flg,(Zv F).length=2*F.length
 | []=>rfl
 | f::F=>by
   have:=Q8 F
   unfold Zv at*
   rw[List.flatMap_cons,List.length_append,List.length_cons,this];simp;omega
theorem z0a {F:List Flg} {n:Nat} (h:n<F.length):Zv (F.take (n+1))=Zv (F.take n)++[(F[n]).id,(F[n]).kind]:=by
 unfold Zv
 rw[show F.take (n+1)=F.take n++[F[n]] from (List.take_append_getElem h).symm,List.flatMap_append];simp
def xR (R:RowV) (F:List Flg):List Int:=vR R++[(F.length:Int)]++Zv F
theorem ZX (R:RowV):(vR R).length=26:=rfl
theorem qPa (h:List Ob) (i:Nat) (z:AV) (Q:List Int × Bool) (R:RowV) (c:AV) (F:List Flg) (s:h[i]? =some (.box 99 [z,bl Q.2])) (hz:Sb z Q.1) (ht:Fit R.tier/\Fit (R.tier+1)) (O:SlOf h c 2 (F.map xI)) (hQ:Q.1.length<134217728) (ι:F.length<524288):
  ACalls Tryz.prog 42 [.ptr i 0,.ag (jL R c)] h λr h'=>r= .tup []/\PnH h i (jx Q (xR R F)) h':=by
 have d:=(List.getElem?_eq_some_iff.1 s).1
 have L:=O.one
 have hex:∃r h',(r=AV.tup []/\PnH h i (jx Q (xR R F)) h')/\ResK h h':=
  ⟨_,h.set i (.box 99 [.sl 1 ((jx Q (xR R F)).1.map jw),bl (jx Q (xR R F)).2]),⟨rfl,_,[],.inl rfl,by simp,jF⟩,zJ s rfl⟩
 have y:=λns=>yX ns Q
 refine zf Tryz.f42 [] 29 rfl rfl rfl rfl rfl rfl (by decide) (hex) λB=>?_
 simp only[go_sem,L]
 have V:(h++[Ob.box 45 (jL R c)])[i]? =some (.box 99 [z,bl Q.2]):=zb s
 have t:(h++[Ob.box 45 (jL R c)])[h.length]? =some (.box 45 (jL R c)):=by rw[zm rfl];rfl
 have j:h.length≠i:=by omega
 refine zd (ZAa _ i h.length z Q R c j V hz t ht L (by omega)) ?_
 rintro _ a ⟨rfl,k1⟩
 have q:=k1.get j t
 have I:zo a c=some (F.map xI):=by
  obtain ⟨z0,L0,_,u,_⟩:=k1.eq
  rw[u,List.set_append_left _ _ d,List.append_assoc]
  exact ((O.keep (.setB s)).app _).rows
 simp only[go_sem,q,I,List.length_map]
 have S:=k1.base d (zj rfl)
 have A:=S.app (M:=[.box 3 [i64 F.length],.row 101 1 [[.ptr a.length 0]] 0]) (zg rfl (zj rfl))
 have w:=y (vR R)
 rw[ZX] at w
 have θ:i<a.length:=by
  obtain ⟨z0,L0,_,u,_⟩:=S.eq
  rw[u,List.length_append,List.length_set];omega
 have b:(a++[Ob.box 3 [i64 F.length],.row 101 1 [[.ptr a.length 0]] 0])[a.length]? =some (.box 3 [i64 F.length]):=by rw[zm rfl];rfl
 have C:(a++[Ob.box 3 [i64 F.length],.row 101 1 [[.ptr a.length 0]] 0])[h.length]? =some (.box 45 (jL R c)):=zb q
 refine zd (Ki A d (.tl (a.length+1) 0) [(.ptr a.length 0,(F.length:Int))] ⟨by rw[zO,zl (k:=1) rfl];rfl,λ_=>by rw[qJ,zl (k:=1) rfl];rfl⟩ (λp J=>by
  rw[List.mem_singleton] at J
  subst J
  exact ⟨a.length,0,_,_,rfl,by omega,b,by show 0<1;decide,rfl⟩) (by omega) (by show 1<1048576;decide)) ?_
 rintro _ H2 ⟨rfl,k2,Z⟩
 rw[<-wK] at k2
 have G:=Z h.length _ j C
 have x:=(k2.sl s O).rows
 simp only[go_sem,G,x,List.length_map]
 refine zk (by decide) (λm T H=>∃n:Nat,n<=F.length/\PnH h i (jx Q (vR R++[(F.length:Int)]++Zv (F.take n))) H/\T 0= .ptr i 0/\T 17=c/\T 18=i64 F.length/\T 19=i64 n/\m=F.length - n) F.length
  ⟨0,by omega,by simpa [Zv] using k2,by simp only[go_sem],by simp only[go_sem],by (simp only[go_sem]<;>rfl),by (simp only[go_sem]<;>rfl),rfl⟩ ?_
 clear k1 k2 S A q C G x I b Z
 rintro m T H ⟨n,hn,v,t0,E,D,l,rfl⟩
 simp only[go_sem,D,l]
 refine ways (λe=>?_) (λe=>?_)
 ·have o:=dlt e
  have f:=qIa o
  have Y:(n:Int)<F.length:=by omega
  have K:=v.sl s O
  have U:=K.at (i:=n) (by rw[List.length_map];exact o)
  have P:=K.rows
  have N:=z0a o
  obtain ⟨g,hg⟩:∃g,g=F[n]:=⟨_,rfl⟩
  rw[<-hg] at f N
  simp only[go_sem,t0,E,l,U,P,f,Y,List.length_map,Int.toNat_natCast,Int.natCast_nonneg]
  have δ:i<H.length:=by
   obtain ⟨z0,L0,_,u,_⟩:=v.eq
   rw[u,List.length_append,List.length_set];omega
  have X:=v.app (M:=[.box 97 [i64 g.id,i64 g.kind],.row 101 1 [[.ptr H.length 0],[.ptr H.length 1]] 0]) (zg rfl (zj rfl))
  have b:(H++[Ob.box 97 [i64 g.id,i64 g.kind],.row 101 1 [[.ptr H.length 0],[.ptr H.length 1]] 0])[H.length]? =some (.box 97 [i64 g.id,i64 g.kind]):=by rw[zm rfl];rfl
  have w:=y (vR R++[(F.length:Int)]++Zv (F.take n))
  have α:(vR R++[(F.length:Int)]++Zv (F.take n)).length<=27+2*F.length:=by
   rw[List.length_append,List.length_append,ZX,Q8,List.length_take]
   show 26+1+_<=_
   omega
  refine zd (Ki X d (.tl (H.length+1) 0) [(.ptr H.length 0,g.id),(.ptr H.length 1,g.kind)] ⟨by rw[zO,zl (k:=1) rfl];rfl,λ_=>by rw[qJ,zl (k:=1) rfl];rfl⟩ (λp J=>by
   simp only[List.mem_cons,List.not_mem_nil,or_false] at J
   rcases J with rfl | rfl
   ·exact ⟨H.length,0,_,_,rfl,by omega,b,by show 0<2;decide,rfl⟩
   ·exact ⟨H.length,1,_,_,rfl,by omega,b,by show 1<2;decide,rfl⟩) (by omega) (by show 2<1048576;decide)) ?_
  rintro _ H3 ⟨rfl,k3,g3⟩
  rw[<-wK] at k3
  simp only[go_sem,l]
  exact ⟨F.length - (n+1),by omega,n+1,by omega,by rw[N];simpa using k3,t0,E,D,zy (by omega) rfl,rfl⟩
 ·have η:=jd e
  have W:n=F.length:=by omega
  subst W
  rw[List.take_length] at v
  simp only[go_sem]
  exact ⟨_,rfl,.inl ⟨rfl,v⟩⟩
set_option maxRecDepth 100000
def yj (R:RowV) (F:List Flg):Bool:= !(decide (R.err>100000) || decide ((F.length:Int)>200)) && (jx ([],true) (xR R F)).2
theorem vsa (h:List Ob) (R:RowV) (a:AV) (F:List Flg) (n:Fit R.tier/\Fit (R.tier+1)) (e:SlOf h a 2 (F.map xI)) (g:F.length<524288):
  ACalls Tryz.prog 20 [.ag (jL R a)] h λr h'=>r=bl (yj R F)/\h'=h:=by
 have f:=e.one
 have c:∀M,zo (h++M) a=some (F.map xI):=λM=>(e.app M).rows
 refine zf Tryz.f20 [.tmp 2] 18 rfl rfl rfl rfl rfl rfl (by decide) (⟨_,_,⟨rfl,rfl⟩,.refl⟩) λB=>?_
 simp only[go_sem,f]
 cases b:decide (R.err>100000)
 ·cases d:decide ((F.length:Int)>200)
  ·simp only[go_sem,b,d,zM,c,List.length_map]
   have j:(h++[Ob.box 45 (jL R a),.box 99 [.v (.slice none 0 0),bl true]])[h.length+1]? =some (.box 99 [.v (.slice none 0 0),bl true]):=by rw[zl (k:=1) rfl];rfl
   refine zd (qPa _ (h.length+1) (.v (.slice none 0 0)) ([],true) R a F j (.inr ⟨rfl,rfl⟩) n (e.app _) (by decide) g) ?_
   rintro _ l ⟨rfl,k1⟩
   obtain ⟨z,L,o,i,z3⟩:=k1.eq
   have m:l[h.length+1]? =some (.box 99 [z,bl (jx ([],true) (xR R F)).2]):=by rw[i];exact zb (List.getElem?_set_self (by simp))
   simp only[go_sem,m]
   refine ⟨bl (jx ([],true) (xR R F)).2,by simp only[go_sem],.inr ⟨h,[.box 45 (jL R a),.box 99 [z,bl (jx ([],true) (xR R F)).2]]++L,?_,rfl,rfl,.refl,?_,rfl⟩⟩
   ·rw[i,List.set_append_right _ _ (by omega),show h.length+1 - h.length=1 by omega,List.append_assoc];rfl
   ·unfold yj;rw[b,d];rfl
  ·simp only[go_sem,b,d,zM,c,List.length_map]
   (first | refine zc ?_ | refine ze ?_ (by rfl))<;>(simp only[go_sem,yj,b,d,Bool.or_true,Bool.not_true,Bool.false_and]<;>try rfl)
 ·simp only[go_sem,b,zM]
  (first | refine zc ?_ | refine ze ?_ (by rfl))<;>(simp only[go_sem,yj,b,Bool.true_or,Bool.not_true,Bool.false_and]<;>try rfl)
def yu (W:List (RowV × List Flg)):List Int:=W.flatMap λq=>xR q.1 q.2
def okW (W:List (RowV × List Flg)):Bool:=W.all λq=>yj q.1 q.2
def kW (W:List (RowV × List Flg)):List Int × Int:=if okW W then ((jx ([],true) ([(W.length:Int)]++yu W)).1,0) else ([],200)
abbrev RwA:=RowV × AV × List Flg
def jz (W:List RwA):List (RowV × List Flg):=W.map λq=>(q.1,q.2.2)
theorem Vj:∀W:List (RowV × List Flg),okW W=true->(yu W).length<=427*W.length
 | [],_=>by simp[yu]
 | q::W,h=>by
   unfold okW at h
   rw[List.all_cons,Bool.and_eq_true] at h
   have c:=Vj W h.2
   have b:(xR q.1 q.2).length<=427:=by
    have a:=h.1
    unfold yj at a
    simp only[Bool.and_eq_true,Bool.not_eq_true',Bool.or_eq_false_iff,decide_eq_false_iff_not] at a
    unfold xR
    rw[List.length_append,List.length_append,ZX,Q8]
    show 26+1+_<=_
    omega
   unfold yu at*
   rw[List.flatMap_cons,List.length_append,List.length_cons]
   omega
theorem PnH.trans {h H d:List Ob} {i:Nat} {Q Q':List Int × Bool} (k:PnH h i Q H) (k':PnH H i Q' d) (f:i<h.length):PnH h i Q' d:=by
 obtain ⟨z,L,k1,k2,k3⟩:=k.eq
 obtain ⟨e,g,c,b,a⟩:=k'.eq
 exact ⟨e,L++g,c,by rw[b,k2,List.set_append_left _ _ (by rw[List.length_set];exact f),List.set_set,List.append_assoc],k3.app a⟩
theorem z1a {W:List RwA} {n:Nat} (h:n<W.length):jz (W.take (n+1))=jz (W.take n)++[((W[n]).1,(W[n]).2.2)]:=by
 unfold jz
 rw[show W.take (n+1)=W.take n++[W[n]] from (List.take_append_getElem h).symm,List.map_append];rfl
theorem PnH.over {h b H:List Ob} {o:Ob} {Q:List Int × Bool} (a:b=h++[o]) (k:PnH b h.length Q H):∃L,H=h++L:=by
 obtain ⟨z,L,k1,k2,k3⟩:=k.eq
 subst a
 refine ⟨[.box 99 [z,bl Q.2]]++L,?_⟩
 rw[k2,List.set_append_right _ _ (Nat.le_refl _),Nat.sub_self,List.append_assoc]
 rfl
theorem wYa (h:List Ob) (x:AV) (W:List RwA) (hx:SlOf h x 27 (W.map λq=>jL q.1 q.2.1)) (hF:∀q∈W,SlOf h q.2.1 2 (q.2.2.map xI)/\(Fit q.1.tier/\Fit (q.1.tier+1))/\q.2.2.length<524288) (hl:W.length<4096):
  ACalls Tryz.prog 16 [x] h λr h'=>(∃z,Sb z (kW (jz W)).1/\r= .tup [z,i64 (kW (jz W)).2])/\h'=h:=by
 have hex:∃r h',((∃z,Sb z (kW (jz W)).1/\r=AV.tup [z,i64 (kW (jz W)).2])/\h'=h)/\ResK h h':=⟨_,_,⟨⟨_,.inl rfl,rfl⟩,rfl⟩,.refl⟩
 have ρ:=hx.rows
 have β:∀M,zo (h++M) x=some (W.map λq=>jL q.1 q.2.1):=λM=>(hx.app M).rows
 refine zf Tryz.f16 [.tmp 2,.tmp 3] 27 rfl rfl rfl rfl rfl rfl (by decide) (hex) λB=>?_
 simp only[go_sem,β,List.length_map]
 obtain ⟨j,a⟩:∃j,j=h++[Ob.box 99 [.v (.slice none 0 0),bl true]]:=⟨_,rfl⟩
 have X:j[h.length]? =some (.box 99 [.v (.slice none 0 0),bl true]):=by rw[a,zm rfl];rfl
 have s:h.length<j.length:=by rw[a];simp
 have base:PnH j h.length ([],true) j:=⟨_,[],.inr ⟨rfl,rfl⟩,by rw[List.append_nil];exact (zW X).symm,jF⟩
 have y:=base.app (M:=[.box 3 [i64 W.length],.row 101 1 [[.ptr (h.length+1) 0]] 0]) (zg rfl (zj rfl))
 have hE:j++[Ob.box 3 [i64 W.length],.row 101 1 [[.ptr (h.length+1) 0]] 0]=h++[Ob.box 99 [.v (.slice none 0 0),bl true],.box 3 [i64 W.length],.row 101 1 [[.ptr (h.length+1) 0]] 0]:=by rw[a];simp
 rw[hE] at y
 refine zd (Ki y s (.tl (h.length+2) 0) [(.ptr (h.length+1) 0,(W.length:Int))] ⟨by rw[zO,zl (k:=2) rfl];rfl,λ_=>by rw[qJ,zl (k:=2) rfl];rfl⟩ (λp hp=>by
  rw[List.mem_singleton] at hp
  subst hp
  exact ⟨h.length+1,0,_,_,rfl,by omega,by rw[zl (k:=1) rfl];rfl,by show 0<1;decide,rfl⟩) (by decide) (by show 1<1048576;decide)) ?_
 rintro _ H2 ⟨rfl,k2,g2⟩
 have N:SlOf j x 27 (W.map λq=>jL q.1 q.2.1):=by rw[a];exact hx.app _
 have δ:∀q∈W,SlOf j q.2.1 2 (q.2.2.map xI):=λq hq=>by rw[a];exact (hF q hq).1.app _
 have O:=(k2.sl X N).rows
 simp only[go_sem,O,List.length_map]
 refine zk (by decide) (λm T H=>∃n:Nat,n<=W.length/\okW (jz (W.take n))=true/\PnH j h.length (jx ([],true) ([(W.length:Int)]++yu (jz (W.take n)))) H/\T 4= .ptr h.length 0/\T 13=x/\T 14=i64 W.length/\T 15=i64 n/\m=W.length - n) W.length
  ⟨0,by omega,rfl,by simpa [yu,jz] using k2,by simp only[go_sem],by simp only[go_sem],by (simp only[go_sem]<;>rfl),by (simp only[go_sem]<;>rfl),rfl⟩ ?_
 clear k2 y g2 O
 rintro m T H ⟨n,hn,c,t,t4,S,G,A,rfl⟩
 simp only[go_sem,G,A]
 refine ways (λe=>?_) (λe=>?_)
 ·have l:=dlt e
  have f:(W.map λq=>jL q.1 q.2.1)[n]? =some (jL (W[n]).1 (W[n]).2.1):=by rw[List.getElem?_map,List.getElem?_eq_getElem l];rfl
  have κ:(n:Int)<W.length:=by omega
  have E:=t.sl X N
  have ε:=E.at (i:=n) (by rw[List.length_map];exact l)
  have α:=E.rows
  have o:=z1a l
  have b:=List.getElem_mem l
  obtain ⟨⟨R,D,F⟩,hg⟩:∃g,g=W[n]:=⟨_,rfl⟩
  rw[<-hg] at f o b
  obtain ⟨q1,q2,q3⟩:=hF _ b
  have u:=δ _ b
  simp only at f o q1 q2 q3 u
  have d:=t.sl X u
  have Q:=d.one
  simp only[go_sem,t4,S,A,ε,α,f,κ,Q,List.length_map,Int.toNat_natCast,Int.natCast_nonneg]
  refine zd (vsa _ R D F q2 (d.app _) q3) ?_
  rintro _ H3 ⟨rfl,e3⟩
  rw[e3]
  cases V:yj R F
  ·have P:okW (jz W)=false:=by
    unfold okW
    rw[List.all_eq_false]
    exact ⟨(R,F),List.mem_map.2 ⟨(R,D,F),b,rfl⟩,by simp[V]⟩
   have U:kW (jz W)=([],200):=by unfold kW;rw[P];rfl
   simp only[go_sem,V,zM,Bool.not_false]
   obtain ⟨Z,C⟩:=(t.app (M:=[Ob.box 45 (jL R D)]) (zj rfl)).over a
   exact ⟨.tup [.v (.slice none 0 0),i64 200],rfl,.inr ⟨h,Z,C,rfl,rfl,.refl,⟨_,by rw[U];exact .inr ⟨rfl,rfl⟩,by rw[U]⟩,rfl⟩⟩
  ·have I:okW (jz (W.take (n+1)))=true:=by
    rw[o];unfold okW at c ⊢;rw[List.all_append,c];simp[V]
   simp only[go_sem,V,zM,Bool.not_true,t4,Q]
   obtain ⟨z,L,Y,z2,z3⟩:=t.eq
   have w:(H++[Ob.box 45 (jL R D)])[h.length]? =some (.box 99 [z,bl (jx ([],true) ([(W.length:Int)]++yu (jz (W.take n)))).2]):=by
    rw[z2];exact zb (zb (List.getElem?_set_self s))
   have K:=yX ([(W.length:Int)]++yu (jz (W.take n))) ([],true)
   have ω:=Vj _ c
   have ο:(jz (W.take n)).length<=W.length:=by unfold jz;rw[List.length_map,List.length_take];omega
   have J:(jx ([],true) ([(W.length:Int)]++yu (jz (W.take n)))).1.length<134217728:=by
    rw[List.length_append] at K
    simp only[List.length_nil,List.length_cons] at K
    omega
   refine zd (qPa _ h.length z _ R D F w Y q2 (d.app _) J q3) ?_
   rintro _ H4 ⟨rfl,k4⟩
   have k5:=(t.app (M:=[Ob.box 45 (jL R D)]) (zj rfl)).trans k4 s
   rw[<-wK] at k5
   simp only[go_sem,A]
   exact ⟨W.length - (n+1),by omega,n+1,by omega,I,by rw[o];simpa [yu] using k5,t4,S,G,zy (by omega) rfl,rfl⟩
 ·have τ:=jd e
  have η:n=W.length:=by omega
  subst η
  rw[List.take_length] at c t
  have U:kW (jz W)=((jx ([],true) ([(W.length:Int)]++yu (jz W))).1,0):=by
   unfold kW;rw[c];simp[jz]
  obtain ⟨z,L,Y,z2,z3⟩:=t.eq
  have w:H[h.length]? =some (.box 99 [z,bl (jx ([],true) ([(W.length:Int)]++yu (jz W))).2]):=by
   rw[z2];exact zb (List.getElem?_set_self s)
  simp only[go_sem,t4,w]
  obtain ⟨Z,C⟩:=t.over a
  exact ⟨.tup [z,i64 0],rfl,.inr ⟨h,Z,C,rfl,by simp only[AV.lt,zP,Y.lt,Bool.and_self],.refl,⟨z,by rw[U];exact Y,by rw[U]⟩,rfl⟩⟩
theorem vta (h:List Ob) (x:AV) (W:List RwA) (c:SlOf h x 27 (W.map λq=>jL q.1 q.2.1)) (e:∀q∈W,SlOf h q.2.1 2 (q.2.2.map xI)/\(Fit q.1.tier/\Fit (q.1.tier+1))/\q.2.2.length<524288) (f:W.length<4096):
  ACalls Tryz.prog 16 [x] h λr h'=>r= .tup [.sl 1 ((kW (jz W)).1.map jw),i64 (kW (jz W)).2]/\h'=h:=
 Jn (wYa h x W c e f) λr h' ⟨⟨z,g,b⟩,a⟩=>by
  subst b
  rcases g with rfl | ⟨rfl,d⟩
  ·exact ⟨_,⟨rfl,a⟩,.refl _⟩
  ·refine ⟨_,⟨rfl,a⟩,.two ?_ (.refl _)⟩
   rw[d]
   exact .nil 1
set_option maxRecDepth 100000
section
variable {h:List Ob} {d:Nat} {s:Setup} {a:SA} {x c:AV} {err:Int} {rows segs bytes:AV} {q:Cm}
end
structure Bk where
 evs:List Ev
 shut:List Int
structure An where
 err:Int
 rows:List (RowV × List Flg)
 segs:List Seg
 bytes:List Int
structure BkI (s:Setup) (b:Bk):Prop where
 few:b.evs.length<=200
 srt:Srt b.evs
 ids:(b.evs.map (·.id)).Nodup
 ok:∀e∈b.evs,yL s e=true
 rise:b.shut.Pairwise (· < ·)
 rng:∀w∈b.shut,0<=w/\w<=52
end Go.Proofs.YtfmldcilgbbimaaGreat.Ax
namespace Go.Proofs.YtfmldcilgbbimaaGreat.Ax
open Go Go.Proofs Go.RowKit
set_option maxRecDepth 100000
end Go.Proofs.YtfmldcilgbbimaaGreat.Ax
namespace Go.Proofs.YtfmldcilgbbimaaGreat.Ax
open Go Go.Proofs
set_option maxRecDepth 100000
structure ApI (h:List Ob) (q:Fx) (at_:Int) (rows:List Ev) (T:Env) (h':List Ob):Prop where
 pre:Pre h h'
 b1:h'[h.length+1]? =some (.box 75 (fxC q))
 own:OwnS h h' 73 11 (T 11) (rows.map evC)
 t5:T 5= .ptr (h.length+1) 0
 t8:T 8=bl (QSa q)
 t9:T 9=bl (Zsa q)
 t10:T 10=i64 at_
set_option maxRecDepth 100000
def ZBa (k:Int × Int):Value:= .agg #[.int .i64 k.1,.int .i64 k.2]
structure KM (es:Array MapEntry) (c:Nat) (ks:List (Int × Int)):Prop where
 keys:es.toList.map (·.key)=ks.map ZBa
 vals:∀e∈es.toList,∃n,e.val= .int .i64 n
 born:(es.toList.map (·.born)).Nodup
 lt:∀e∈es.toList,e.born<c
def JRa (ks:List (Int × Int)) (k:Int × Int):List (Int × Int):=if k∈ks then ks else ks++[k]
end Go.Proofs.YtfmldcilgbbimaaGreat.Ax
namespace Go.Proofs.YtfmldcilgbbimaaGreat.Ax
open Go Go.RowKit
def QXa (P:Program) (N:Nat) (o:Oper) (K:Env->List Ob->Prop) (T:Env) (h:List Ob):Prop:=
 ∀ (φ:Nat->Ob),Upto φ h.length->∀(B:Bs) (w:World) (g:Gh) (a:Act),Rel N B w g (fill φ h) a T->∀(Q:Exit->Act->World->Prop) (next:Act->World->Prop),
   (∀b h' w' c,K b h'->Aft N B φ w g h b h' c w'->next c w')->o.wp P a w next Q
section
variable {P:Program} {N:Nat} {B:Bs} {ops:Array Oper} {T:Env} {h:List Ob} {K:Env->List Ob->Prop} {o:Oper}
def ysa (P:Program) (N:Nat) (K:Env->List Ob->Prop):List Oper->Env->List Ob->Prop
 | [],T,h=>K T h
 | o::l,T,h=>o.guard=none/\QXa P N o (ysa P N K l) T h
theorem xea:ysa P N K [] T h=K T h:=id rfl
attribute [go_sem] xea
end
end Go.Proofs.YtfmldcilgbbimaaGreat.Ax
namespace Go.Proofs.YtfmldcilgbbimaaGreat.Ax
open Go Go.Proofs Go.RowKit
set_option maxRecDepth 100000
section
variable {P:Program} {N:Nat} {B:Bs} {c:Code} {Q:jl} {T:Env} {h:List Ob}
end
section
variable {N:Nat} {T:Env} {h:List Ob} {K:Env->List Ob->Prop} {o:Oper}
end
end Go.Proofs.YtfmldcilgbbimaaGreat.Ax
namespace Go.Proofs.YtfmldcilgbbimaaGreat.Ax
open Go Go.Proofs Go.Shelf Go.RowKit Go.Lib Go.Sort
set_option maxRecDepth 100000
end Go.Proofs.YtfmldcilgbbimaaGreat.Ax
namespace Go.Proofs.YtfmldcilgbbimaaGreat.Ax
open Go Go.Proofs
set_option maxRecDepth 100000
structure JT (H:List Ob) (id l i3 j:Nat) (e:Ev) (w:Int) (ks:List (Int × Int)) (u1 u5:AV) (S:Nat->Bool) (T:Env) (h:List Ob):Prop where
 t1:T 1=u1
 t2:T 2= .ptr j 0
 t3:T 3= .ptr i3 0
 t5:T 5=u5
 t6:T 6=i64 w
 k0:S 0=true->T 20= .v (.map (some l))
 k1:S 1=true->T 21= .ptr i3 1
 k2:S 2=true->T 22=i64 e.worker
 k3:S 3=true->T 23=i64 w
 k4:S 4=true->T 24= .ag [i64 e.worker,i64 w]
 k5:S 5=true->∃n,T 25=i64 n
 k6:S 6=true->∃n,T 26=i64 n
 k8:S 8=true->S 7=true
 k7:∃es c ks',h=H.set id (.raw l (.map es c) [] [])/\KM es c ks'/\(S 7=false->ks'=ks)/\(S 7=true->ks'=JRa ks (e.worker,w)/\∃(n:Int) (st:Nat),T 27= .tup [i64 n,i64 st]/\(S 8=true->T 28=i64 st)/\∃x∈es.toList,x.born=st)
end Go.Proofs.YtfmldcilgbbimaaGreat.Ax
namespace Go.Proofs.YtfmldcilgbbimaaGreat.Ax
open Go Go.Proofs Go.RowKit
set_option maxRecDepth 100000
structure Vis (es:Array MapEntry) (seen:Array Nat) (vs:List (Int × Int)):Prop where
 nodup:vs.Nodup
 iff:∀e∈es.toList,∀k,e.key=ZBa k->(k∈vs↔e.born∈seen)
 sub:∀k∈vs,∃e∈es.toList,e.key=ZBa k
end Go.Proofs.YtfmldcilgbbimaaGreat.Ax
namespace Go.Proofs.YtfmldcilgbbimaaGreat.Ax
open Go Go.Proofs
set_option maxRecDepth 100000
section
variable {h:List Ob} {d:Nat} {s:Setup} {a:SA} {x c:AV} {rows segs bytes:AV} {q:Cm}
end
end Go.Proofs.YtfmldcilgbbimaaGreat.Ax
namespace Go.Proofs.YtfmldcilgbbimaaGreat.Ax
open Go Go.RowKit
section
variable {B:Nat} {w w':World} {g g':Gh} {h h' L:List Ob} {P:Program}
end
end Go.Proofs.YtfmldcilgbbimaaGreat.Ax
namespace Go.Proofs.YtfmldcilgbbimaaGreat.Ax
open Go Go.Proofs
set_option maxRecDepth 100000
set_option maxRecDepth 100000
structure DE (h:List Ob) (d:Nat) (mk:AV->Ob) (y:AV) (rows:List (List AV)) (H:List Ob):Prop where
 eq:∃M,H=h.set d (mk y)++M/\NoRes M
 own:OwnS h H 45 27 y rows
section
variable {h:List Ob} {d:Nat} {s:Setup} {a:SA} {x c:AV} {segs:AV} {q:Cm}
theorem vua {s:Setup} (f:SFit s) (p:zx):Fit (xk s p)/\Fit (xk s p+1):=by
 have d: -1<=xk s p/\xk s p<9223372036854775807:=by
  cases b:zz s
  ·have:xk s p= -1:=by simp[xk,b]
   omega
  ·cases a:rok p
   ·have:xk s p= -1:=by simp[xk,a]
    omega
   ·rcases wqa b a with ⟨e,_⟩ | ⟨j,t,c,g,_⟩
    ·omega
    ·have:=(List.getElem?_eq_some_iff.1 c).1
     have:=f.nt
     omega
 constructor<;>(unfold Fit;omega)
theorem vva {s:Setup} (f:SFit s) (l:List Ev) (w wk:Int) (d:l.length<=1000):(Fit (qH s l w wk).1.tier/\Fit ((qH s l w wk).1.tier+1))/\(qH s l w wk).2.length<524288:=by
 unfold qH
 split
 ·exact ⟨by constructor<;>(show Fit _;unfold Fit;first | exact (by decide:(-9223372036854775808:Int)<= -1/\(-1:Int)<=9223372036854775807) | exact (by decide:(-9223372036854775808:Int)<= -1+1/\(-1+1:Int)<=9223372036854775807)),by show 0<524288;decide⟩
 ·constructor
  ·show Fit (ite _ (xk s _) (-1))/\Fit (ite _ (xk s _) (-1)+1)
   split
   ·exact vua f _
   ·constructor<;>(unfold Fit;decide)
  ·have c:= @Jz s (evR s w l) w
   have a:(evR s w l).length<=l.length:=qHa s w l
   have b:=List.length_filter_le (λg=>Kd (evR s w l) g==wk) (zR s (evR s w l) w).2
   show (List.filter _ _).length<_
   omega
end
end Go.Proofs.YtfmldcilgbbimaaGreat.Ax
