import Derived.Test.YtigdlmpjijhpaaaGreatKA
import Derived.Test.YtigdlmpjijhpaaaGreatK34
import Derived.Test.YtigdlmpjijhpaaaGreatK38
import Derived.Test.YtigdlmpjijhpaaaGreatK32
import Derived.Test.YtigdlmpjijhpaaaGreatK39
import Derived.Lib.Strings
import Derived.Lib.Slices
import Derived.Lib.Small
import Derived.Lib.Walk
import Derived.Lib.BitFns
set_option linter.all false
namespace Go.Proofs.YtigdlmpjijhpaaaGreat.Ax
open Go Go.Proofs
theorem V8{n b:Int}(e:0<b):ofI n b=qI n 32054399 / b:=by
 have h0:0<=qI n 32054399:=by unfold qI;omega
 have c:qI n 32054399<=32054399:=by unfold qI;omega
 have a:0<=qI n 32054399 / b:=Int.ediv_nonneg h0 (by omega)
 have d:qI n 32054399 / b<=qI n 32054399:=Int.ediv_le_self b h0
 unfold ofI
 rw[Int.tdiv_eq_ediv_of_nonneg h0,qq (by unfold Fit;omega)]
theorem QK{a c b:Int}(d:0<b)(h:a<=c):ofI a b<=ofI c b:=by
 rw[V8 d,V8 d]
 exact Int.ediv_le_ediv d (by unfold qI;omega)
theorem Vl{t:Int}(h0:0<=t)(a:t<32054400):qI t 32054399=t:=by unfold qI;omega
theorem Wka{t k:Int}(h0:0<=t)(a:t<32054400)(b:k*604800<=t)(c:t<(k+1)*604800):xS t=k:=by
 unfold xS
 rw[V8 (by decide),Vl h0 a]
 omega
theorem zEa{t d:Int}(h0:0<=t)(a:t<32054400)(b:d*86400<=t)(c:t<(d+1)*86400):jW t=d/\xS t=d / 7:=by
 unfold xS jW
 rw[V8 (by decide),V8 (by decide),Vl h0 a]
 omega
theorem zwb{t:Int}(h0:0<=t)(a:t<32054400):jW t*86400<=t/\t<(jW t+1)*86400:=by
 unfold jW
 rw[V8 (by decide),Vl h0 a]
 omega
def Out(s:Setup)(n wk:Int):Prop:=∀x,n - (s.unit+s.cap)<=x->x<=n+(s.unit+s.cap)->xS x≠wk
theorem zxb{s:Setup}(d:z6 s=true){n wk:Int}(c:0<=n/\n<=31449599)(h:¬ ((yh s n).1<=wk/\wk<=(yh s n).2)):Out s n wk:=by
 obtain⟨⟨q,o⟩,p,m⟩:=jU d
 intro x l e a
 apply h
 have k:qI n 32054399=n:=Vl c.1 (by omega)
 have f:qI s.unit 604800=s.unit:=by unfold qI;omega
 have g:qI s.cap 604800=s.cap:=by unfold qI;omega
 have j:wr (s.unit+s.cap)=s.unit+s.cap:=qq (by unfold Fit;omega)
 have b:wr (n - (s.unit+s.cap))=n - (s.unit+s.cap):=qq (by unfold Fit;omega)
 have i:wr (n+(s.unit+s.cap))=n+(s.unit+s.cap):=qq (by unfold Fit;omega)
 unfold yh
 simp only[k,f,g,j,b,i]
 rw[<-a]
 exact⟨QK (by decide) l,QK (by decide) e⟩
theorem X8a{o:List Int}{d:Int}(h:∀x,o.getLast? =some x->x<=d):d∈Jg o d/\(∀x∈o,x∈Jg o d)/\∀x,(Jg o d).getLast? =some x->x=d:=by
 unfold Jg
 cases b:o.getLast? with
 | none=>
   rw[List.getLast?_eq_none_iff] at b
   subst b
   exact⟨.head _,λx a=>(by cases a),λx a=>by simpa using a.symm⟩
 | some y=>
   have c:=h y b
   simp only
   split
   ·exact⟨by simp,λx a=>by simp[a],λx a=>by simpa using a.symm⟩
   ·have e:y=d:=by omega
    subst e
    exact⟨List.mem_of_getLast? b,λ_ h=>h,λx a=>by rw[b] at a;injection a with a;exact a.symm⟩
theorem kSa{o:List Int}{a:Int}(h:∀x,o.getLast? =some x->x<=a):∀k:Nat,(∀x∈o,x∈Kp o a k)/\(∀j:Nat,j<k->a+j∈Kp o a k)/\∀x,(Kp o a k).getLast? =some x->x<=a+(k:Int) - 1∨x<=a
 | 0=>⟨λ_ h=>h,λj f=>by omega,λx b=> .inr (h x b)⟩
 | k+1=>by
   obtain⟨i,e,g⟩:=kSa h k
   obtain⟨k1,k2,k3⟩:=X8a (o:=Kp o a k) (d:=a+k) (λx b=>by have:=g x b;omega)
   rw[Kp]
   refine⟨λx b=>k2 x (i x b),λj f=>?_,λx b=> .inl ?_⟩
   ·by_cases c:j=k
    ·subst c;exact k1
    ·exact k2 _ (e j (by omega))
   ·have:=k3 x b
    omega
theorem q2a:∀(L:List Spn) (o:List Int),PlainS L->(∀s∈L,0<=s.from_/\s.from_<s.to_/\s.to_<=32054400)->(∀x,o.getLast? =some x->∀s∈L,x<=jW s.from_)->(∀x∈o,x∈L.foldl kP o)/\∀s∈L,∀t,s.from_<=t->t<s.to_->jW t∈L.foldl kP o
 | [],o,_,_,_=>⟨λ_ h=>h,λ_ h=>by cases h⟩
 | s::L,o,i,hi,m=>by
   rw[List.foldl_cons]
   have n:=hi s (.head _)
   obtain⟨l,k,j⟩:=kSa (o:=o) (a:=jW s.from_) (λx b=>m x b s (.head _)) (jW (s.to_ - 1) - jW s.from_+1).toNat
   have f:jW s.from_<=jW (s.to_ - 1):=QK (by decide) (by omega)
   have d:=q2a L (kP o s) i.tail (λx b=>hi x (.tail _ b)) (λx b y c=>by
    have e:=j x b
    have g:=(zR.1 i.gap).1 y c
    have q:jW (s.to_ - 1)<=jW y.from_:=QK (by decide) (by omega)
    omega)
   refine⟨λx b=>d.1 x (l x b),λy c t e g=>?_⟩
   rcases zy.1 c with rfl|c
   ·have r:jW y.from_<=jW t:=QK (by decide) e
    have p:jW t<=jW (y.to_ - 1):=QK (by decide) (by omega)
    have:=k (jW t - jW y.from_).toNat (by omega)
    rw[show jW y.from_+((jW t - jW y.from_).toNat:Int)=jW t by omega] at this
    exact d.1 _ this
   ·exact d.2 y c t e g
theorem kTa{l:List Spn}{t:Int}(h0:0<=t)(b:t<32054400)(h:Cov l t):jW t∈qR l:=by
 obtain⟨s,a,k1,k2⟩:=(js l t).2 ⟨h0,b,h⟩
 exact(q2a (qx l) [] (vh l) kX (λ_ h=>by cases h)).2 s a t k1 k2
theorem yUa{a b t:Int}:Cov [⟨a,b⟩] t↔a<=t/\t<b:=by
 rw[jT]
 simp[Q8]
theorem XI{a b:List Spn}{n size:Int}(h:∀t,0<=t->t<32054400->n*size<=t->t<(n+1)*size->(Cov a t↔Cov b t)):vj a n size=vj b n size:=by
 unfold vj
 split
 ·rfl
 ·unfold Vf
  refine YV λt h0 f=>?_
  rw[VT,VT,js a,js b,js [_],yUa]
  constructor
  ·rintro ⟨⟨_,_,c⟩,g,i,e,d⟩
   exact⟨⟨h0,f,(h t h0 f e d).1 c⟩,g,i,e,d⟩
  ·rintro ⟨⟨_,_,c⟩,g,i,e,d⟩
   exact⟨⟨h0,f,(h t h0 f e d).2 c⟩,g,i,e,d⟩
theorem QL{a:List Spn}{n size t:Int}(h:Cov (vj a n size) t):(0<=t/\t<32054400)/\Cov a t/\n*size<=t/\t<(n+1)*size:=by
 unfold vj at h
 split at h
 ·exact absurd h Q8
 ·rw[Vg,yUa] at h
  exact⟨h.1,h.2.1,h.2.2⟩
section
variable {s:Setup} {L L1 L2:List Seg} {wk d t:Int}
structure SameW (L1 L2:List Seg) (wk:Int):Prop where
 clock:∀t,0<=t->t<32054400->xS t=wk->(Cov (L1.map spS) t↔Cov (L2.map spS) t)
 rest:∀t,0<=t->t<32054400->xS t=wk->(Cov ((L1.filter λg=>g.kind==3).map spS) t↔Cov ((L2.filter λg=>g.kind==3).map spS) t)
theorem q3a(h:SameW L1 L2 wk)(e:d / 7=wk):xl (qV L1) d=xl (qV L2) d:=XI λt h0 a b c=>by
 have f:=(zEa h0 a b c).2
 unfold qV
 rw[js,js]
 have:=h.clock t h0 a (by omega)
 simp[h0,a,this]
theorem X9a(h:SameW L1 L2 wk)(e:d / 7=wk):xl (vi L1 3) d=xl (vi L2 3) d:=XI λt h0 a b c=>by
 have f:=(zEa h0 a b c).2
 unfold vi
 rw[js,js]
 have:=h.rest t h0 a (by omega)
 simp[h0,a,this]
theorem Kaa(h:SameW L1 L2 wk)(a:d / 7=wk):xT s L1 d=xT s L2 d:=by
 unfold xT
 rw[q3a h a,X9a h a]
theorem Kba(h:SameW L1 L2 wk)(a:d / 7=wk):jX s L1 d=jX s L2 d:=by
 unfold jX
 rw[q3a h a,Kaa h a]
theorem wHa{k:Int}(h:Cov (vi L k) t):Cov (qV L) t:=by
 unfold vi at h
 unfold qV
 rw[js] at h⊢
 obtain⟨h0,b,x,a,c⟩:=h
 obtain⟨g,d,rfl⟩:=zt.1 a
 exact⟨h0,b,_,zt.2 ⟨g,(zL.1 d).1,rfl⟩,c⟩
theorem Kca(h:Cov (xT s L d) t):(0<=t/\t<32054400)/\Cov (qV L) t/\d*86400<=t/\t<(d+1)*86400:=by
 have key:Cov (xl (qV L) d) t∨Cov (xl (vi L 3) d) t:=by
  unfold xT wC at h
  rw[js,jPa] at h
  rcases h.2.2 with q|q
  ·exact .inr (wH.1 q).2.1
  ·unfold ZM at q
   split at q
   ·unfold J5 at q
    split at q
    ·exact absurd q Q8
    ·exact .inl (wH.1 (wH.1 q).2.1).2.1
   ·exact absurd q Q8
 rcases key with q|q
 ·exact QL q
 ·obtain⟨c,b,a⟩:=QL q
  exact⟨c,wHa b,a⟩
theorem yVa(h:Cov (jX s L d) t):(0<=t/\t<32054400)/\Cov (qV L) t/\d*86400<=t/\t<(d+1)*86400:=by
 unfold jX at h
 exact QL (wH.1 h).2.1
theorem zFa{f:Int->List Spn}:∀ {l:List Int},Cov (l.flatMap f) t↔∃d∈l,Cov (f d) t
 | []=>by simp[Q8]
 | x::l=>by rw[List.flatMap_cons,jPa,zFa];simp
theorem kUa(h0:0<=t)(b:t<32054400):Cov (yf s L) t↔Cov (jX s L (jW t)) t:=by
 unfold yf
 rw[js,zFa]
 constructor
 ·rintro ⟨_,_,d,_,a⟩
  obtain⟨_,_,e,c⟩:=yVa a
  rw[(zEa h0 b e c).1]
  exact a
 ·intro a
  exact⟨h0,b,_,kTa h0 b (yVa a).2.1,a⟩
theorem kVa(h0:0<=t)(b:t<32054400):Cov (vY s L) t↔Cov (xT s L (jW t)) t:=by
 unfold vY
 rw[js,zFa]
 constructor
 ·rintro ⟨_,_,d,_,a⟩
  obtain⟨_,_,e,c⟩:=Kca a
  rw[(zEa h0 b e c).1]
  exact a
 ·intro a
  exact⟨h0,b,_,kTa h0 b (Kca a).2.1,a⟩
theorem wIa(h:SameW L1 L2 wk):vr s L1 wk=vr s L2 wk:=by
 have e:∀t,0<=t->t<32054400->wk*604800<=t->t<(wk+1)*604800->jW t / 7=wk:=λt h0 a b c=>by
  have f:=Wka h0 a b c
  have d:=zwb h0 a
  have g:=(zEa h0 a d.1 d.2).2
  omega
 have f:jr (yf s L1) wk=jr (yf s L2) wk:=XI λt h0 a b c=>by
  rw[kUa h0 a,kUa h0 a,Kba h (e t h0 a b c)]
 have d:jr (vY s L1) wk=jr (vY s L2) wk:=XI λt h0 a b c=>by
  rw[kVa h0 a,kVa h0 a,Kaa h (e t h0 a b c)]
 unfold vr Jz
 rw[f,d]
end
section
variable {s:Setup} {n wk:Int} {L L1 L2:List Seg}
theorem W8(j:Out s n wk)(r:Seg->Bool){t:Int}(i:xS t=wk):Cov ((L.filter r).map spS) t↔Cov (((QA s n L).filter r).map spS) t:=by
 constructor
 ·rintro ⟨x,d,h,b⟩
  obtain⟨g,a,rfl⟩:=zt.1 d
  obtain⟨a,f⟩:=zL.1 a
  have h:g.from_<=t:=h
  have b:t<g.to_:=b
  refine⟨_,zt.2 ⟨g,zL.2 ⟨zL.2 ⟨a,?_⟩,f⟩,rfl⟩,h,b⟩
  cases e:inG s n g
  ·rfl
  ·simp only[inG,zq,decide_eq_true_eq] at e
   exact absurd i (j t (by omega) (by omega))
 ·rintro ⟨x,d,c⟩
  obtain⟨g,a,rfl⟩:=zt.1 d
  obtain⟨a,f⟩:=zL.1 a
  exact⟨_,zt.2 ⟨g,zL.2 ⟨(zL.1 a).1,f⟩,rfl⟩,c⟩
theorem Kda(b:Out s n wk)(h:QA s n L1=QA s n L2):SameW L1 L2 wk:=by
 refine⟨λt _ _ a=>?_,λt _ _ a=>?_⟩
 ·have k1:=W8 (L:=L1) b (λ_=>true) a
  have k2:=W8 (L:=L2) b (λ_=>true) a
  rw[h] at k1
  rw[Jb (λ_ _=>rfl)] at k1 k2
  exact k1.trans k2.symm
 ·rw[W8 b _ a,W8 (L:=L2) b _ a,h]
theorem kWa(d:Out s n wk)(c:RiseTo L 32054400):L.filter (jH wk)=(QA s n L).filter (jH wk):=by
 unfold QA
 rw[List.filter_filter]
 refine List.filter_congr λg b=>?_
 have b:=c.each g b
 cases a:inG s n g
 ·simp
 ·simp only[inG,zq,decide_eq_true_eq] at a
  have:=d g.from_ (by omega) (by omega)
  simp[jH,this]
end
theorem QDa{s:Setup}{a b:List Ev}{L1 L2:List Seg}{k:Int}(c:L1.filter (jH k)=L2.filter (jH k))(e:∀g∈L1.filter (jH k),kY a g=kY b g)(i:kp a k=kp b k):WA s a L1 k=WA s b L2 k:=by
 have j:(L1.filter (jH k)).map (λg=>(xQ s (kY a g)).1)=(L2.filter (jH k)).map λg=>(xQ s (kY b g)).1:=by
  rw[<-c]
  exact List.map_congr_left λg d=>by rw[e g d]
 have h:(L1.filter (jH k)).foldl (λz g=>jf z ((0,1),(xQ s (kY a g)).2)) ((0,1),0)=(L2.filter (jH k)).foldl (λz g=>jf z ((0,1),(xQ s (kY b g)).2)) ((0,1),0):=by
  have f:∀(l:List Seg) (E:List Ev) (z:qw × Int),l.foldl (λz g=>jf z ((0,1),(xQ s (kY E g)).2)) z=(l.map λg=>(xQ s (kY E g)).2).foldl (λz x=>jf z ((0,1),x)) z:=λl E z=>by rw[List.foldl_map]
  rw[f,f, <-c]
  congr 1
  exact List.map_congr_left λg d=>by rw[e g d]
 unfold WA
 simp only[j,h]
 simp only[c,i]
theorem q4a(x:Ev):∀l:List Ev,∃A B,l=A++B/\vF x l=A++x::B
 | []=>⟨[],[],rfl,rfl⟩
 | y::l=>by
   rw[jA]
   split
   ·obtain⟨A,B,b,a⟩:=q4a x l
    exact⟨y::A,B,by rw[b];rfl,by rw[a];rfl⟩
   ·exact⟨[],y::l,rfl,rfl⟩
section
variable {s:Setup} {A B:List Ev} {e:Ev} {w wk:Int}
theorem j3a(i:z6 s=true)(d:Srt (A++e::B))(q:Int->Bool)(t:∀x∈A++e::B,e.at_ - s.cap<=x.at_->x.at_<=e.at_+s.cap->q x.id=true)(g:∀x∈A++e::B,vI s x=true):
  QA s e.at_ (qA s (A++B) w).1=QA s e.at_ (qA s (A++e::B) w).1/\yB q (qA s (A++B) w).2=yB q (qA s (A++e::B) w).2:=by
 obtain⟨k1,k2,k3⟩:=xm.1 d
 have m:Srt B:=k2.2
 have j:Srt (A++B):=xm.2 ⟨k1,m,λx c y p=>k3 x c y (.tail _ p)⟩
 have o:∀(l:List Ev),Srt l->qu (l.filter (ye s w))=l.filter (ye s w):=λl u=>by rw[wi,Qb u]
 unfold qA
 rw[if_pos i,if_pos i,jRa,jRa,o _ j,o _ d,qo,qo,List.filter_cons]
 cases k:ye s w e
 ·exact⟨rfl,rfl⟩
 ·simp only[if_true]
  have f:∀x∈A.filter (ye s w)++e::B.filter (ye s w),x∈A++e::B:=λx c=>by
   rcases zI.1 c with c|c
   ·exact List.mem_append_left _ (zL.1 c).1
   ·rcases zy.1 c with rfl|c
    ·exact List.mem_append_right _ (.head _)
    ·exact List.mem_append_right _ (.tail _ (zL.1 c).1)
  have n:(A.filter (ye s w)++e::B.filter (ye s w)).Pairwise λa b=>a.at_<=b.at_:=by
   have h:=Xla d
   have r:(A.filter (ye s w)++e::B.filter (ye s w))=(A++e::B).filter (ye s w):=by rw[qo,List.filter_cons,k,if_pos rfl]
   rw[r]
   exact h.filter _
  have:=VGa (q:=q) i n (λx c=>(wM (yA (g x (f x c)))).2.2.2.1) λx c=>t x (f x c)
  exact⟨this.seg,this.flg⟩
theorem QEa{p:Ev->Bool}(a:p e=false):(A++e::B).find? p=(A++B).find? p:=by
 rw[List.find?_append,List.find?_append,List.find?_cons,a]
theorem j4a{l:List Ev}(d:(l.map (·.id)).Nodup){x:Ev}(b:x∈l):l.find? (λe=>e.id==x.id)=some x:=by
 cases a:l.find? (λe=>e.id==x.id) with
 | none=>
   have:=List.find?_eq_none.1 a x b
   simp at this
 | some y=>
   have f:=List.mem_of_find?_eq_some a
   have c:=List.find?_some a
   simp only[beq_iff_eq] at c
   rw[X5a d f b c]
theorem j5a(s:Setup)(w:Int):Ql s w=vM s w:=rfl
theorem kXa{own:List Ev}(a:Srt own)(b:∀x∈own,vM s w x=false):XP s w own=own:=by
 unfold XP
 rw[Qb a,j5a]
 exact Jb λx c=>by rw[b x c];rfl
theorem Kea(r:z6 s=true)(c:Srt (A++e::B))(j:∀x∈A++e::B,vM s w x=false)(t:((A++e::B).map (·.id)).Nodup)(z:Out s e.at_ wk):
  vz s (A++B) w wk=vz s (A++e::B) w wk/\vr s (qA s (A++B) w).1 wk=vr s (qA s (A++e::B) w).1 wk/\
   jE (A++B) (qA s (A++B) w).2 wk=jE (A++e::B) (qA s (A++e::B) w).2 wk:=by
 obtain⟨⟨Y,u2⟩,X,Z⟩:=jU r
 obtain⟨k1,k2,k3⟩:=xm.1 c
 have H:Srt (A++B):=xm.2 ⟨k1,k2.2,λx a y C=>k3 x a y (.tail _ C)⟩
 have h:∀x∈A++B,x∈A++e::B:=λx a=>by
  rcases zI.1 a with a|a
  ·exact List.mem_append_left _ a
  ·exact List.mem_append_right _ (.tail _ a)
 have G:∀x∈A++e::B,vI s x=true:=λx a=>by
  have:=j x a
  unfold vM at this
  rw[zY] at this
  simpa using this.2
 have E:∀x∈A++B,x.id≠e.id:=λx a J=>by
  have b:((e::(A++B)).map (·.id)).Nodup:=(List.Perm.nodup_iff (List.Perm.map _ List.perm_middle)).1 t
  rw[List.map_cons,List.nodup_cons] at b
  exact b.1 (zt.2 ⟨x,a,J⟩)
 have F:((A++B).map (·.id)).Nodup:=by
  have b:((e::(A++B)).map (·.id)).Nodup:=(List.Perm.nodup_iff (List.Perm.map _ List.perm_middle)).1 t
  rw[List.map_cons,List.nodup_cons] at b
  exact b.2
 obtain⟨q,u⟩:∃q:Int->Bool,q=λi=>(A++e::B).any λx=>x.id==i && (decide (e.at_ - s.cap<=x.at_) && decide (x.at_<=e.at_+s.cap)):=⟨_,rfl⟩
 have K:∀x∈A++e::B,e.at_ - s.cap<=x.at_->x.at_<=e.at_+s.cap->q x.id=true:=λx a M Q=>by
  rw[u]
  exact List.any_eq_true.2 ⟨x,a,by simp[M,Q]⟩
 obtain⟨I,N⟩:=j3a (w:=w) r c q K G
 obtain⟨O,R⟩:=yU (s:=s) (l:=A++B) (w:=w) r
 obtain⟨S,W⟩:=yU (s:=s) (l:=A++e::B) (w:=w) r
 have m:∀x∈A++B,vM s w x=false:=λx a=>j x (h x a)
 refine⟨?_,wIa (Kda z I),?_⟩
 ·unfold vz
  rw[if_pos r,if_pos r,kXa H m,kXa c j]
  refine QDa (by rw[kWa z O,kWa z S,I]) (λg V=>?_) ?_
  ·obtain⟨x,⟨a,_,_⟩,hid,_⟩:=R g (zL.1 V).1
   unfold kY
   rw[QEa]
   have:=E x a
   simp only[Za]
   rw[show(e.id==g.id)=false by rw[beq_eq_false_iff_ne];omega]
   rfl
  ·unfold kp
   rw[qo,qo,List.filter_cons]
   have:wl wk e=false:=by
    have:=z e.at_ (by omega) (by omega)
    simp[wl,this]
   rw[this]
   rfl
 ·have d:∀x∈A++B,∀f:Flg,f.id=x.id->QJ (A++B) f=xS x.at_/\QJ (A++e::B) f=xS x.at_:=λx a f k=>by
   unfold QJ
   rw[k,j4a F a,j4a t (h x a)]
   exact⟨rfl,rfl⟩
  have D:∀f:Flg,q f.id=true->∃x∈A++e::B,x.id=f.id/\xS x.at_≠wk:=λf k=>by
   rw[u] at k
   obtain⟨x,a,v⟩:=List.any_eq_true.1 k
   simp only[zq,beq_iff_eq,decide_eq_true_eq] at v
   exact⟨x,a,v.1,z x.at_ (by omega) (by omega)⟩
  have L:jE (A++B) (qA s (A++B) w).2 wk=jE (A++B) (yB q (qA s (A++B) w).2) wk:=by
   unfold jE yB
   rw[List.filter_filter]
   refine List.filter_congr λf k=>?_
   cases p:q f.id
   ·simp
   ·obtain⟨x,a,hid⟩:=XB f k
    obtain⟨y,C,o,n⟩:=D f p
    have:y=x:=X5a t C (h x a) (by rw[o,hid])
    subst this
    rw[(d y a f hid.symm).1]
    simp[n]
  have U:jE (A++e::B) (qA s (A++e::B) w).2 wk=jE (A++e::B) (yB q (qA s (A++e::B) w).2) wk:=by
   unfold jE yB
   rw[List.filter_filter]
   refine List.filter_congr λf k=>?_
   cases p:q f.id
   ·simp
   ·obtain⟨y,C,o,n⟩:=D f p
    have:QJ (A++e::B) f=xS y.at_:=by
     unfold QJ
     rw[<-o,j4a t C]
     rfl
    rw[this]
    simp[n]
  rw[L,U, <-N]
  unfold jE
  refine List.filter_congr λf k=>?_
  obtain⟨x,a,hid⟩:=XB f (zL.1 k).1
  obtain⟨P,T⟩:=d x a f hid.symm
  rw[P,T]
end
theorem q5a{s:Setup}{l:List Ev}{e:Ev}{w wk:Int}(t:((e::l).map (·.id)).Nodup)(h:e.worker=w->vI s e=true->z6 s=true->Out s e.at_ wk):qi s (e::l) w wk=qi s l w wk:=by
 unfold qi
 by_cases f:xX s w wk=0
 ·rw[if_neg (by omega),if_neg (by omega)]
  have u:z6 s=true:=by
   unfold xX at f
   cases C:z6 s
   ·simp[C] at f
   ·rfl
  have p:((w.toNat:Nat):Int)=w:=by
   unfold xX at f
   simp only[u,Bool.not_true,Bool.false_eq_true,if_false] at f
   split at f
   ·omega
   ·omega
  have q:=xY l
  have i:evR s w (e::l)=if !vM s w e then vF e (evR s w l) else evR s w l:=by
   unfold evR
   rw[show qu (e::l)=vF e (qu l) from rfl,J2 e q]
  cases a:vM s w e
  ·rw[a] at i
   simp only[Bool.not_false,if_true] at i
   obtain⟨A,B,z,n⟩:=q4a e (evR s w l)
   have v:Srt (evR s w l):=by
    have:evR s w l=qu (l.filter λe=> !vM s w e):=by rw[wi];rfl
    rw[this];exact xY _
   have m:=YO e v
   rw[n] at m
   have c:∀x∈evR s w l,x∈l/\vM s w x=false:=λx b=>by
    obtain⟨H,G⟩:=zL.1 b
    exact⟨Xw.1 H,by simpa using G⟩
   have j:∀x∈A++e::B,vM s w x=false:=λx b=>by
    rw[<-n] at b
    rcases K2.1 b with rfl|b
    ·exact a
    ·exact(c x b).2
   have g:(A++e::B).Perm (e::evR s w l):=by rw[<-n];exact Y4 e _
   have d:((e::evR s w l).map (·.id)).Nodup:=by
    rw[List.map_cons,List.nodup_cons] at t⊢
    refine⟨λE=>?_,?_⟩
    ·obtain⟨x,b,r⟩:=zt.1 E
     exact t.1 (zt.2 ⟨x,(c x b).1,r⟩)
    ·have y:((qu l).map (·.id)).Nodup:=(List.Perm.nodup_iff (List.Perm.map _ (xK l))).2 t.2
     exact List.Sublist.nodup (List.Sublist.map _ List.filter_sublist) y
   have o:((A++e::B).map (·.id)).Nodup:=(List.Perm.nodup_iff (List.Perm.map _ g)).2 d
   have k:e.worker=w/\vI s e=true:=by
    unfold vM at a
    rw[zY] at a
    exact⟨by simpa using a.1,by simpa using a.2⟩
   obtain⟨D,F,z3⟩:=Kea (w:=w) (wk:=wk) u m j o (h k.1 k.2 u)
   rw[i,n,z]
   refine Prod.ext ?_ (by simpa using z3.symm)
   unfold Qxa
   simp only[p]
   rw[D,F]
  ·rw[a] at i
   simp only[Bool.not_true,Bool.false_eq_true,if_false] at i
   rw[i]
 ·rw[if_pos f,if_pos f]
theorem V9{s:Setup}{l l':List Ev}{w wk:Int}(a:l.Perm l')(b:(l.map (·.id)).Nodup):qi s l w wk=qi s l' w wk:=by
 unfold qi evR
 rw[wca a b]
set_option maxRecDepth 100000
theorem Wla{P:Program}{f:FuncId}{x v:Value}(i:Yq P f=true)(c:∀w,Calls P f #[x] w λe w'=>e= .returned v/\w=w'):xy P f [.v x] (.v v):=λh=>by
 refine⟨i,⟨_,_,⟨rfl,rfl⟩,.refl⟩,λφ k B w g vs j hB a=>?_⟩
 obtain⟨u,r,rfl,d,b⟩:=a
 have d:u=x:=d
 have b:r=[]:=b
 subst d b
 refine(c w).mono ?_
 rintro e w' ⟨rfl,rfl⟩
 exact⟨_,_,_,_,rfl,⟨rfl,rfl⟩,.refl,Good.refl j hB,rfl⟩
def xq(n:Int):Int:=wr ((wr (Go.Lib.bitLen (IntKind.wrap .u64 n).toNat+7)).tdiv 8)
theorem jzb(n:Int):xy Tryz.prog 74 [i64 n] (i64 (xq n)):=λh=>by
 have a:0<=IntKind.wrap .u64 n/\IntKind.wrap .u64 n<=18446744073709551615:=by
  rw[IntKind.wrap_u64];omega
 refine zj Tryz.f74 [.tmp 2] 8 rfl rfl rfl rfl rfl rfl (by decide) (⟨_,_,⟨rfl,rfl⟩,.refl⟩) λB=>?_
 simp only[go_sem]
 refine zh (Wla (by kernel_rfl) (λw=>QFa (IntKind.wrap .u64 n) w a.1 a.2) _) ?_
 rintro _ b ⟨rfl,rfl⟩
 simp only[go_sem]
 refine zn ?_<;>(simp only[go_sem,xq]<;>try rfl)
theorem X0{P:Program}{f:FuncId}{ar:List AV}{h:List Ob}{u:AV}{e:Nat}{rows:List (List AV)}(n:0<e)(i:u.lt h.length=true)(s:qO h.length rows=true)(c:ACalls P f ar h λr h'=>∃L x,h'=h++L/\NoRes L/\r= .tup [x,u]/\New h e x rows L):ACalls P f ar h λr h'=>r= .tup [.sl e rows,u]/\h'=h:=by
 refine⟨c.1,⟨_,_,⟨rfl,rfl⟩,.refl⟩,λφ m B w g vs l hB b=>?_⟩
 refine(c.2.2 φ m B w g vs l hB b).mono λE w' ⟨v,r,h',g',p,⟨L,x,z,_,o,n1⟩,_,d,k⟩=>?_
 subst z o
 rw[xc m] at d k
 have a:(fill φ h).length=h.length:=ju
 obtain⟨us,rfl,q,D,C,a1,A,t,y,a2,j⟩:=k
 have j:t=[]:=j
 subst j y
 refine⟨_,_,h,g',p,⟨rfl,rfl⟩,.refl,d.drop rfl (by have:=l.ids;exact this),us,rfl,?_⟩
 rw[C]
 exact⟨q,_,rfl,J6 d.ok n a1 (n1 _ a) (λid hid=>by rw[a];exact n1.root id hid) (by rw[a];exact s),A,[],rfl,AR.less (vB w' g' (fill φ h) L) _ _ (by rw[ju];exact i) a2,rfl⟩
def xA(n:Int):List AV:=[.v (.int .u8 n)]
theorem Qc{n:Nat}:∀l:List Int,qO n (l.map xA)=true
 | []=>rfl
 | s::l=>by
   rw[List.map_cons,qO,Qc l];rfl
theorem Kfa(l:List Int):((l.map xA).all λr=>r.length==1 && r.all AV.one)=true:=by
 rw[qa]
 intro r a
 obtain⟨s,_,rfl⟩:=zt.1 a
 rfl
def Xf(n:Int)(j:Nat):Int:=IntKind.wrap .u8 (n.fdiv (2 ^ min (8*j) 64))
def yn(n:Int):Nat->List Int
 | 0=>[]
 | k+1=>Xf n k::yn n k
theorem Zu(n:Int):∀k,(yn n k).length=k
 | 0=>rfl
 | k+1=>by rw[yn,List.length_cons,Zu n k]
theorem yWa(n:Int):0<=xq n/\xq n<=8:=by
 have a:0<=IntKind.wrap .u64 n/\IntKind.wrap .u64 n<=18446744073709551615:=by
  rw[IntKind.wrap_u64];omega
 have:=Go.Lib.bitLen_le (IntKind.wrap .u64 n).toNat 64 (by omega) (by omega)
 unfold xq
 rw[qq (n:=(Go.Lib.bitLen (IntKind.wrap .u64 n).toNat:Int)+7) (by unfold Fit;omega),Int.tdiv_eq_ediv_of_nonneg (by omega),qq (by unfold Fit;omega)]
 omega
def yi(n:Int):List Int:=IntKind.wrap .u8 (xq n)::yn n (xq n).toNat
theorem zGa(n:Int):(yi n).length<=9:=by
 have:=yWa n
 rw[yi,List.length_cons,Zu];omega
def wJa(l:List Int):Bool:=l.any λn=>decide (n<0)
def yX(b ns:List Int):List Int × Int:=if wJa ns then([],50) else(b++ns.flatMap yi,0)
theorem zyb(h:List Ob)(x y:AV)(b ns:List Int)(hx:SlOf h x 1 (b.map xA))(hy:SlOf h y 1 (ns.map qz))(hb:b.length<1073741824)(hn:ns.length<1048576):
  ACalls Tryz.prog 24 [x,y] h λr h'=>∃L z,h'=h++L/\NoRes L/\r= .tup [z,i64 (yX b ns).2]/\New h 1 z ((yX b ns).1.map xA) L:=by
 have hex:∃r h',(∃L z,h'=h++L/\NoRes L/\r=AV.tup [z,i64 (yX b ns).2]/\New h 1 z ((yX b ns).1.map xA) L)/\ResK h h':=
  ⟨_,_,⟨[],.sl 1 _,rfl,jm,rfl,λ_ _=>⟨rfl,λ_=>rfl⟩⟩,resK_app⟩
 refine jM (N:=41) (rs:=[.tmp 4,.tmp 5]) (fn:=Tryz.f24) rfl rfl rfl rfl (qp rfl) rfl (hex) λB=>?_
 refine qG (by decide) ?_
 simp only[go_sem]
 refine jR (xo (λT' h'=>Pre h h'/\OwnS h h' 5 1 (T' 6) (b.map xA)/\T' 1=y) (by decide) ?_ ?_)
 ·simp only[go_sem]
  refine zh (wFa _ x _ hx (by rw[zb];omega) (Kfa b)) ?_
  rintro r h1 hr
  rcases hr with⟨q1,rfl,rfl⟩|⟨rfl,rfl⟩
  ·simp only[go_sem]
   exact⟨.refl,.inl ⟨rfl,q1⟩⟩
  ·simp only[go_sem]
   exact⟨⟨_,rfl,zD rfl⟩,.inr ⟨h.length,1,zp _,rfl,by rw[zK rfl];rfl⟩⟩
 ·rintro T h' ⟨c,J,t1⟩
  have F:=(c.sl hy).rows
  refine qD _ (by decide) ?_
  simp only[go_sem,t1,F,zb]
  refine zO (by decide) (λm T h'=>∃i:Nat,i<=ns.length/\wJa (ns.take i)=false/\Pre h h'/\OwnS h h' 5 1 (T 6) ((b++(ns.take i).flatMap yi).map xA)/\T 12=y/\T 13=i64 ns.length/\T 14=i64 i/\m=ns.length - i) ns.length
   ⟨0,by omega,rfl,c,by simp only[go_sem];simpa using J,by simp only[go_sem,t1],by(simp only[go_sem]<;>rfl),by(simp only[go_sem]<;>rfl),rfl⟩ ?_
  clear c J t1 F
  rintro m T h' ⟨i,hi,s,c,J,g,o,f,rfl⟩
  simp only[go_sem,o,f]
  refine ways (λe=>?_) (λe=>?_)
  ·have C:=dlt e
   have I:=XE C
   have ξ:=(c.sl hy).at (i:=i) (by rw[zb];exact C)
   have F:=(c.sl hy).rows
   have α:(i:Int)<ns.length:=by omega
   have v:ns.take (i+1)=ns.take i++[ns[i]]:=(zE C).symm
   have H:=zx C
   obtain⟨z,hz⟩:∃z,z=ns[i]:=⟨_,rfl⟩
   rw[<-hz] at I v H
   simp only[go_sem,g,f,ξ,F,I,α,zb,Int.toNat_natCast,zf]
   refine ways (λe2=>?_) (λe2=>?_)
   ·have W:wJa ns=true:=List.any_eq_true.2 ⟨z,H,e2⟩
    have hp:yX b ns=([],50):=by unfold yX;rw[W];rfl
    rw[hp]
    simp only[go_sem]
    obtain⟨L,Z,hN⟩:=c
    exact⟨_,rfl,.inl ⟨L,_,Z,hN,rfl,λh2 _=>⟨rfl,λh=>absurd rfl h⟩⟩⟩
   ·have Y:decide (z<0)=false:=e2
    simp only[go_sem]
    refine zh (jzb z _) ?_
    rintro _ h2 ⟨rfl,e3⟩
    rw[e3]
    have hk:=yWa z
    obtain⟨p,E⟩:∃p,p=b++(ns.take i).flatMap yi:=⟨_,rfl⟩
    rw[<-E] at J
    have ψ:p.length<=1073741824+9*1048576:=by
     have:∀l:List Int,(l.flatMap yi).length<=9*l.length:=λl=>by
      induction l with
      | nil=>simp
      | cons n l ih=>
        have:=zGa n
        rw[List.flatMap_cons,zg,List.length_cons];omega
     have:=this (ns.take i)
     rw[zH] at this
     rw[E,zg];omega
    have X:(p.length+1)*2<=140737488355328:=by omega
    rcases J with⟨t6,q⟩|⟨id,st,u1,t6,u3⟩
    ·have hP:p=[]:=by simpa using q
     simp only[go_sem,t6]
     have a:Pre h (h'++[.row 5 1 [xA (IntKind.wrap .u8 (xq z))] 0,.row 5 1 [xA (IntKind.wrap .u8 (xq z))] 0]):=c.app (zl rfl (zD rfl))
     have d:OwnS h (h'++[.row 5 1 [xA (IntKind.wrap .u8 (xq z))] 0,.row 5 1 [xA (IntKind.wrap .u8 (xq z))] 0]) 5 1 (.tl (h'.length+1) 0) ((p++[IntKind.wrap .u8 (xq z)]).map xA):= .inr ⟨_,0,by have:=c.len;omega,rfl,by rw[zG (k:=1) rfl,hP];rfl⟩
     have β:((xq z).toNat:Int)=xq z:=by omega
     obtain⟨k,Q⟩:∃k,k=(xq z).toNat:=⟨_,rfl⟩
     have η:k<=8:=by omega
     refine zO (by decide) (λm T G=>∃j:Nat,j<=k/\Pre h G/\(∃D,yn z k=D++yn z j/\OwnS h G 5 1 (T 6) ((p++[IntKind.wrap .u8 (xq z)]++D).map xA))/\T 8=i64 z/\T 9=i64 j/\T 12=y/\T 13=i64 ns.length/\T 14=i64 i/\m=j) k
      ⟨k,zp _,a,⟨[],rfl,by simp only[go_sem];exact d⟩,by simp only[go_sem],by rw[show((k:Nat):Int)=xq z by omega];simp only[go_sem],by simp only[go_sem,g],by simp only[go_sem,o],by simp only[go_sem,f],rfl⟩ ?_
     clear a d g o f
     rintro m T G ⟨j,hj,a,⟨D,R,d⟩,t8,t9,g,o,f,rfl⟩
     simp only[go_sem,t9]
     refine ways (λO=>?_) (λO=>?_)
     ·have κ:0<m:=by have:=of_decide_eq_true O;omega
      obtain⟨j,rfl⟩:∃j,m=j+1:=⟨m - 1,by omega⟩
      have w1:IntKind.wrap .i64 (((j+1:Nat):Int) - 1)=(j:Int):=(qq (n:=((j+1:Nat):Int) - 1) (by unfold Fit;omega)).trans (by omega)
      have w2:IntKind.wrap .i64 (8*(j:Int))=8*(j:Int):=qq (n:=8*(j:Int)) (by unfold Fit;omega)
      have w3:0<=8*(j:Int):=by omega
      have w4:(8*(j:Int)).toNat=8*j:=by omega
      have K:yn z k=(D++[Xf z j])++yn z j:=by rw[R,yn];simp
      have P:=congrArg List.length R
      rw[zg,Zu,Zu] at P
      have V:IntKind.wrap .u8 (z.fdiv (2 ^ min (8*j) 64))=Xf z j:=rfl
      have U:(p.length+(D.length+1)+1)*2<=140737488355328:=by omega
      rcases d with⟨_,q⟩|⟨A,t,v1,t6,v3⟩
      ·simp at q
      ·have w:∀M,(G++M)[A]? =some (.row 5 1 ((p++[IntKind.wrap .u8 (xq z)]++D).map xA) t):=λM=>ze v3
       simp only[go_sem,t6,t8,t9,w1,w2,w3,w4,V,w,U,zb]
       refine⟨j,by omega,j,by omega,(a.app (zD rfl)).set v1 rfl,⟨D++[Xf z j],K,.inr ⟨A,t+1,v1,rfl,?_⟩⟩,rfl,g,o,f,rfl⟩
       have e6:(p++IntKind.wrap .u8 (xq z)::(D++[Xf z j])).map xA=(p++IntKind.wrap .u8 (xq z)::D).map xA++[xA (Xf z j)]:=by simp
       rw[e6]
       exact zm (w _)
     ·have S:m=0:=by have:=of_decide_eq_false O;omega
      subst S
      have u:p++[IntKind.wrap .u8 (xq z)]++D=b++(ns.take (i+1)).flatMap yi:=by
       rw[v,List.flatMap_append, <-zr, <-E]
       have:D=yn z k:=by rw[R];simp[yn]
       rw[this,Q]
       simp[yi]
      rw[u] at d
      simp only[go_sem,f]
      exact⟨ns.length - (i+1),by omega,i+1,by omega,by rw[v];unfold wJa at s ⊢;rw[List.any_append,s];simp[Y],a,d,g,o,qn (by omega) rfl,rfl⟩
    ·have hg:∀M,(h'++M)[id]? =some (.row 5 1 (p.map xA) st):=λM=>ze u3
     simp only[go_sem,t6,hg,X,zb]
     have a:Pre h ((h'++[Ob.row 5 1 [xA (IntKind.wrap .u8 (xq z))] 0]).set id (.row 5 1 (p.map xA++[xA (IntKind.wrap .u8 (xq z))]) (st+1))):=(c.app (zD rfl)).set u1 rfl
     have d:OwnS h ((h'++[Ob.row 5 1 [xA (IntKind.wrap .u8 (xq z))] 0]).set id (.row 5 1 (p.map xA++[xA (IntKind.wrap .u8 (xq z))]) (st+1))) 5 1 (.tl id (st+1)) ((p++[IntKind.wrap .u8 (xq z)]).map xA):= .inr ⟨id,st+1,u1,rfl,by rw[zw];exact zm (hg _)⟩
     have β:((xq z).toNat:Int)=xq z:=by omega
     obtain⟨k,Q⟩:∃k,k=(xq z).toNat:=⟨_,rfl⟩
     have η:k<=8:=by omega
     refine zO (by decide) (λm T G=>∃j:Nat,j<=k/\Pre h G/\(∃D,yn z k=D++yn z j/\OwnS h G 5 1 (T 6) ((p++[IntKind.wrap .u8 (xq z)]++D).map xA))/\T 8=i64 z/\T 9=i64 j/\T 12=y/\T 13=i64 ns.length/\T 14=i64 i/\m=j) k
      ⟨k,zp _,a,⟨[],rfl,by simp only[go_sem];exact d⟩,by simp only[go_sem],by rw[show((k:Nat):Int)=xq z by omega];simp only[go_sem],by simp only[go_sem,g],by simp only[go_sem,o],by simp only[go_sem,f],rfl⟩ ?_
     clear a d g o f
     rintro m T G ⟨j,hj,a,⟨D,R,d⟩,t8,t9,g,o,f,rfl⟩
     simp only[go_sem,t9]
     refine ways (λO=>?_) (λO=>?_)
     ·have κ:0<m:=by have:=of_decide_eq_true O;omega
      obtain⟨j,rfl⟩:∃j,m=j+1:=⟨m - 1,by omega⟩
      have w1:IntKind.wrap .i64 (((j+1:Nat):Int) - 1)=(j:Int):=(qq (n:=((j+1:Nat):Int) - 1) (by unfold Fit;omega)).trans (by omega)
      have w2:IntKind.wrap .i64 (8*(j:Int))=8*(j:Int):=qq (n:=8*(j:Int)) (by unfold Fit;omega)
      have w3:0<=8*(j:Int):=by omega
      have w4:(8*(j:Int)).toNat=8*j:=by omega
      have K:yn z k=(D++[Xf z j])++yn z j:=by rw[R,yn];simp
      have P:=congrArg List.length R
      rw[zg,Zu,Zu] at P
      have V:IntKind.wrap .u8 (z.fdiv (2 ^ min (8*j) 64))=Xf z j:=rfl
      have U:(p.length+(D.length+1)+1)*2<=140737488355328:=by omega
      rcases d with⟨_,q⟩|⟨A,t,v1,t6,v3⟩
      ·simp at q
      ·have w:∀M,(G++M)[A]? =some (.row 5 1 ((p++[IntKind.wrap .u8 (xq z)]++D).map xA) t):=λM=>ze v3
       simp only[go_sem,t6,t8,t9,w1,w2,w3,w4,V,w,U,zb]
       refine⟨j,by omega,j,by omega,(a.app (zD rfl)).set v1 rfl,⟨D++[Xf z j],K,.inr ⟨A,t+1,v1,rfl,?_⟩⟩,rfl,g,o,f,rfl⟩
       have e6:(p++IntKind.wrap .u8 (xq z)::(D++[Xf z j])).map xA=(p++IntKind.wrap .u8 (xq z)::D).map xA++[xA (Xf z j)]:=by simp
       rw[e6]
       exact zm (w _)
     ·have S:m=0:=by have:=of_decide_eq_false O;omega
      subst S
      have u:p++[IntKind.wrap .u8 (xq z)]++D=b++(ns.take (i+1)).flatMap yi:=by
       rw[v,List.flatMap_append, <-zr, <-E]
       have:D=yn z k:=by rw[R];simp[yn]
       rw[this,Q]
       simp[yi]
      rw[u] at d
      simp only[go_sem,f]
      exact⟨ns.length - (i+1),by omega,i+1,by omega,by rw[v];unfold wJa at s ⊢;rw[List.any_append,s];simp[Y],a,d,g,o,qn (by omega) rfl,rfl⟩
  ·have hge:=xr e
   have ζ:i=ns.length:=by omega
   subst ζ
   rw[zV] at s J
   have hp:yX b ns=(b++ns.flatMap yi,0):=by unfold yX;rw[s];rfl
   rw[hp]
   simp only[go_sem]
   obtain⟨L,Z,hN⟩:=c
   rw[Z] at J
   exact⟨_,rfl,.inl ⟨L,_,Z,hN,rfl,J.new (zp _)⟩⟩
theorem jAb(h:List Ob)(x y:AV)(b ns:List Int)(a:SlOf h x 1 (b.map xA))(d:SlOf h y 1 (ns.map qz))(e:b.length<1073741824)(c:ns.length<1048576):
  ACalls Tryz.prog 24 [x,y] h λr h'=>r= .tup [.sl 1 ((yX b ns).1.map xA),i64 (yX b ns).2]/\h'=h:=
 X0 (by decide) rfl (Qc _) (zyb h x y b ns a d e c)
def Sb(z:AV)(b:List Int):Prop:=z= .sl 1 (b.map xA)∨z= .v (.slice none 0 0)/\b=[]
theorem Sb.sl{h:List Ob}{z:AV}{b:List Int}(k:Sb z b):SlOf h z 1 (b.map xA):=by
 rcases k with rfl|⟨rfl,rfl⟩
 ·exact⟨rfl,λ_=>rfl⟩
 ·exact⟨rfl,λh=>absurd rfl h⟩
theorem Sb.lt{n:Nat}{z:AV}{b:List Int}(k:Sb z b):z.lt n=true:=by
 rcases k with rfl|⟨rfl,rfl⟩
 ·exact Qc _
 ·rfl
def Qd(q:List Int × Bool)(n:Int):List Int × Bool:=(if q.2 && (yX q.1 [n]).2==0 then(yX q.1 [n]).1 else q.1,q.2 && (yX q.1 [n]).2==0)
def kG(q:List Int × Bool)(ns:List Int):List Int × Bool:=ns.foldl Qd q
theorem kYa(q:List Int × Bool)(n:Int):(Qd q n).1.length<=q.1.length+9:=by
 have:=zGa n
 have a:(yX q.1 [n]).1.length<=q.1.length+9:=by
  unfold yX
  split
  ·simp
  ·simp only[zg,List.flatMap_cons,List.flatMap_nil,zM];omega
 unfold Qd
 simp only
 split
 ·exact a
 ·omega
theorem Xg:∀(ns:List Int) (q:List Int × Bool),(kG q ns).1.length<=q.1.length+9*ns.length
 | [],q=>by simp[kG]
 | n::ns,q=>by
   have b:=kYa q n
   have a:=Xg ns (Qd q n)
   rw[kG,List.foldl_cons,List.length_cons]
   unfold kG at a
   omega
theorem QGa{q:List Int × Bool}{ns:List Int}{i:Nat}(h:i<ns.length):kG q (ns.take (i+1))=Qd (kG q (ns.take i)) ns[i]:=by
 unfold kG
 rw[show ns.take (i+1)=ns.take i++[ns[i]] from(zE h).symm,qK];rfl
def jBb(h:List Ob)(i:Nat)(p:AV)(n:Int):Prop:=∃id off ty cs,p= .ptr id off/\id≠i/\h[id]? =some (.box ty cs)/\off<cs.length/\nth cs off=i64 n
theorem xZb(h:List Ob)(i:Nat)(z:AV)(b:List Int)(ok:Bool)(x:AV)(d:List (AV × Int))(hi:h[i]? =some (.box 107 [z,bl ok]))(hz:Sb z b)(hx:SlOf h x 1 (d.map λp=>[p.1]))(hp:∀p∈d,jBb h i p.1 p.2)(hb:b.length<536870912)(hn:d.length<1048576):
  ACalls Tryz.prog 45 [.ptr i 0,x] h λr h'=>r= .tup []/\∃t,Sb t (kG (b,ok) (d.map (·.2))).1/\h'=h.set i (.box 107 [t,bl (kG (b,ok) (d.map (·.2))).2]):=by
 have hex:∃r h',(r=AV.tup []/\∃t,Sb t (kG (b,ok) (d.map (·.2))).1/\h'=h.set i (.box 107 [t,bl (kG (b,ok) (d.map (·.2))).2]))/\ResK h h':=
  ⟨_,_,⟨rfl,_,.inl rfl,rfl⟩,qj hi rfl⟩
 refine zj Tryz.f45 [] 46 rfl rfl rfl rfl rfl rfl (by decide) (hex) λB=>?_
 simp only[go_sem,hx.rows,zb]
 obtain⟨ns,A⟩:∃ns,ns=d.map (·.2):=⟨_,rfl⟩
 have V:ns.length=d.length:=by rw[A];simp
 have Z:=λj=>Xg (ns.take j) (b,ok)
 rw[<-A]
 have G:=(zd.1 hi).1
 refine zO (by decide) (λm T h'=>∃(j:Nat) (t:AV) (L:List Ob),j<=d.length/\Sb t (kG (b,ok) (ns.take j)).1/\h'=h.set i (.box 107 [t,bl (kG (b,ok) (ns.take j)).2])++L/\NoRes L/\T 0= .ptr i 0/\T 8=x/\T 9=i64 d.length/\T 10=i64 j/\m=d.length - j) d.length
  ⟨0,z,[],by omega,hz,by rw[zM];exact(qS hi).symm,jm,by simp only[go_sem],by simp only[go_sem],by(simp only[go_sem]<;>rfl),by(simp only[go_sem]<;>rfl),rfl⟩ ?_
 rintro m T h' ⟨j,y,L,hj,f,rfl,U,t0,t8,t9,t10,rfl⟩
 simp only[go_sem,t9,t10]
 refine ways (λe=>?_) (λe=>?_)
 ·have w:=dlt e
  have u:(d.map λp=>[p.1])[j]? =some [d[j].1]:=by rw[zz,zi w];rfl
  have O:(j:Int)<d.length:=by omega
  have a:=QGa (q:=(b,ok)) (ns:=ns) (i:=j) (by omega)
  have β:ns[j]'(by omega)=d[j].2:=by simp[A]
  obtain⟨id,off,ty,cs,p1,p2,p3,p4,P⟩:=hp d[j] (zx w)
  have I:=Z j
  rw[β] at a
  obtain⟨n,S⟩:∃n,n=d[j].2:=⟨_,rfl⟩
  obtain⟨pt,Y⟩:∃pt,pt=d[j].1:=⟨_,rfl⟩
  rw[<-S] at a P
  rw[<-Y] at u p1
  subst p1
  obtain⟨Q,hQ⟩:∃Q,Q=kG (b,ok) (ns.take j):=⟨_,rfl⟩
  rw[<-hQ] at a f I⊢
  have η:Q.1.length<1073741824:=by
   simp only[zH] at I
   omega
  obtain⟨H,C⟩:∃H,H=h.set i (.box 107 [y,bl Q.2])++L:=⟨_,rfl⟩
  have E:H[i]? =some (.box 107 [y,bl Q.2]):=by rw[C];exact ze (zo G)
  have W:H[id]? =some (.box ty cs):=by rw[C];exact ze (by rw[zc (Ne.symm p2)];exact p3)
  have D:SlOf H x 1 (d.map λp=>[p.1]):=by rw[C];exact(hx.keep (.setB hi)).app _
  have γ:∀o,H.set i o=h.set i o++L:=λo=>by rw[C,qt _ _ (by rw[zJ];exact G),qd]
  rw[<-C]
  clear C
  have α:=D.rows
  have N:=D.at (i:=j) (by rw[zb];exact w)
  have c:∀M,(H++M)[i]? =some (.box 107 [y,bl Q.2]):=λM=>ze E
  have s:∀M,(H++M)[id]? =some (.box ty cs):=λM=>ze W
  have g:=(f.sl (h:=h)).one
  have k:=(f.sl (h:=h)).cells
  simp only[go_sem,t0,t8,t10,α,N,u,O,zb,Int.toNat_natCast,zf]
  refine zQ rfl [.res] 1 [(0,0,[]),(1,0,[]),(2,0,[]),(4,0,[]),(5,0,[]),(3,0,[]),(6,0,[]),(7,0,[]),(8,0,[]),(9,0,[]),(10,0,[]),(11,0,[]),(12,0,[]),(13,0,[])] rfl (by decide) (by decide) ?_
  simp only[go_sem,t0,c,s,p4,P,g,k]
  refine zh (jAb _ y _ Q.1 [n] f.sl ⟨by rw[q8,zK rfl];rfl,λ_=>by rw[jO,zK rfl];rfl⟩ (by omega) (by show 1<1048576;decide)) ?_
  rintro _ h3 ⟨rfl,e3⟩
  rw[e3]
  obtain⟨R,hR⟩:∃R,R=yX Q.1 [n]:=⟨_,rfl⟩
  rw[<-hR]
  simp only[go_sem,t0,c,s,p4,P,g,k]
  have F:Qd Q n=(if Q.2 && R.2==0 then R.1 else Q.1,Q.2 && R.2==0):=by rw[hR];rfl
  rw[F] at a
  have v:∀o M,((H++M).set i o)[i]? =some o:=λo M=>zm (c M)
  have l:∀o M,(H++M).set i o=h.set i o++(L++M):=λo M=>by
   rw[qt _ _ (by exact(zd.1 E).1),γ,zr]
  cases J:Q.2
  ·rw[J] at a c
   simp only[Bool.false_and,Bool.false_eq_true,if_false] at a
   simp only[go_sem,J,qv,t0,t10,c,v,g,k]
   exact⟨d.length - (j+1),by omega,j+1,y,L++[.row 3 1 [[i64 n]] 0],by omega,by rw[a];exact f,by rw[a];exact l _ _,U.app (zD rfl),t8,t9,qn (by omega) rfl,rfl⟩
  ·rw[J] at a c
   simp only[Bool.true_and] at a
   cases K:R.2==0
   ·rw[K] at a
    simp only[Bool.false_eq_true,if_false] at a
    simp only[go_sem,J,K,qv,t0,t10,c,v,g,k]
    exact⟨d.length - (j+1),by omega,j+1,y,L++[.row 3 1 [[i64 n]] 0],by omega,by rw[a];exact f,by rw[a];exact l _ _,U.app (zD rfl),t8,t9,qn (by omega) rfl,rfl⟩
   ·rw[K] at a
    simp only[if_true] at a
    simp only[go_sem,J,K,qv,t0,t10,c,v,g,k,qd]
    exact⟨d.length - (j+1),by omega,j+1,.sl 1 (R.1.map xA),L++[.row 3 1 [[i64 n]] 0],by omega,by rw[a];exact .inl rfl,by rw[a];exact l _ _,U.app (zD rfl),t8,t9,qn (by omega) rfl,rfl⟩
 ·have ν:=xr e
  have X:j=d.length:=by omega
  subst X
  rw[<-V,zV] at f⊢
  simp only[go_sem]
  exact⟨.tup [],rfl,.inr ⟨_,L,rfl,by rw[zJ],rfl,KeepLt.set .refl rfl (by simp only[Vz,qy,f.lt,AV.lt,Bool.and_self]),rfl,y,f,rfl⟩⟩
structure Cm where
 kind:Int
 fx:Fx
 worker:Int
 week:Int
 last:Int
abbrev qN(s:Setup)(a:SA)(x c:AV)(err:Int)(rows segs bytes:AV)(q:Cm):List AV:=[i64 s.places,a.w,i64 s.pace.1,i64 s.pace.2,a.e,a.c,a.g,i64 s.allow,i64 s.unit,i64 s.cap,i64 s.paidBreak,i64 s.autoAfter,i64 s.autoBreak,
 i64 s.dayReg,i64 s.dayOver,i64 s.weekReg,i64 s.nightFrom,i64 s.nightTo,a.r,i64 s.diff,i64 s.least,i64 s.fault,a.t,x,c,i64 err,rows,segs,bytes,i64 q.kind,i64 q.fx.op,i64 q.fx.ev.id,i64 q.fx.ev.worker,i64 q.fx.ev.at_,i64 q.fx.ev.kind,i64 q.fx.ev.from_,i64 q.fx.ev.to_,i64 q.fx.ev.element,i64 q.fx.ev.units,i64 q.fx.ev.class_,i64 q.fx.ev.gear,i64 q.fx.ev.code,i64 q.worker,i64 q.week,i64 q.last]
def jJ(err:Int)(c:Bool)(e:Int):Int:=if err==0 && !c then e else err
section
variable {h:List Ob} {d:Nat} {s:Setup} {a:SA} {x c:AV} {err:Int} {rows segs bytes:AV} {q:Cm}
theorem Xh(g:h[d]? =some (.box 154 (qN s a x c err rows segs bytes q)))(b:Bool)(e:Int):
  ACalls Tryz.prog 162 [.ptr d 0,bl b,i64 e] h λr h'=>r=bl (jJ err b e==0)/\h'=h.set d (.box 154 (qN s a x c (jJ err b e) rows segs bytes q)):=by
 have j:∀o,(h.set d o)[d]? =some o:=λo=>zm g
 refine zj Tryz.f162 [.tmp 6] 28 rfl rfl rfl rfl rfl rfl (by decide) (⟨_,_,⟨rfl,rfl⟩,qj g rfl⟩) λB=>?_
 simp only[go_sem,g]
 cases f:err==0
 ·have i:jJ err b e=err:=by unfold jJ;rw[f];rfl
  rw[i]
  simp only[go_sem,f,qv,g]
  exact⟨bl (err==0),by simp only[go_sem,f],.inl ⟨by rw[f],(qS g).symm⟩⟩
 ·cases b
  ·have i:jJ err false e=e:=by unfold jJ;rw[f];rfl
   rw[i]
   simp only[go_sem,f,qv,g,j]
   exact⟨bl (e==0),by simp only[go_sem],.inl ⟨rfl,rfl⟩⟩
  ·have i:jJ err true e=err:=by unfold jJ;rw[f];rfl
   rw[i]
   simp only[go_sem,f,qv,g]
   exact⟨bl (err==0),by simp only[go_sem,f],.inl ⟨by rw[f],(qS g).symm⟩⟩
theorem W9(b:h[d]? =some (.box 154 (qN s a x c err rows segs bytes q)))(l:List Int)(e:SlOf h c 1 (l.map qz))(f:l.length<1048576)(n:Int):
  ACalls Tryz.prog 163 [.ptr d 0,i64 n] h λr h'=>r=bl (l.any (n== ·))/\h'=h:=by
 refine zj Tryz.f163 [.tmp 4] 12 rfl rfl rfl rfl rfl rfl (by decide) (⟨_,_,⟨rfl,rfl⟩,.refl⟩) λB=>?_
 simp only[go_sem,b]
 refine zh (q1a _ c l n e f) ?_
 rintro _ g ⟨rfl,rfl⟩
 simp only[go_sem]
 refine zn ?_<;>(simp only[go_sem]<;>try rfl)
def jc(s:Setup)(q:Cm):Bool:=decide (q.worker≥0) && decide (q.worker<(s.rates.length:Int))
def kr(q:Cm):Bool:=decide (q.week≥0) && decide (q.week<=52)
theorem yXa(e:h[d]? =some (.box 154 (qN s a x c err rows segs bytes q)))(k:SIn h s a):
  ACalls Tryz.prog 164 [.ptr d 0] h λr h'=>r=bl (jc s q)/\h'=h:=by
 have f:=k.r.rows
 refine zj Tryz.f164 [.tmp 2] 24 rfl rfl rfl rfl rfl rfl (by decide) (⟨_,_,⟨rfl,rfl⟩,.refl⟩) λB=>?_
 simp only[go_sem]
 refine zQ rfl [] 0 [(0,0,[]),(1,0,[]),(2,0,[]),(3,0,[]),(4,0,[]),(5,0,[]),(6,0,[]),(7,0,[]),(8,0,[]),(9,0,[]),(10,0,[]),(12,0,[]),(13,0,[]),(14,0,[]),(15,0,[]),(16,0,[]),(11,0,[]),(17,0,[]),(18,0,[]),(19,0,[]),(20,0,[]),(21,0,[])] rfl (by decide) (by decide) ?_
 simp only[go_sem,e]
 cases b:decide (q.worker≥0)
 ·simp only[go_sem,b,qv,e]
  refine zn ?_<;>(simp only[go_sem,jc,b,Bool.false_and]<;>try rfl)
 ·simp only[go_sem,b,qv,e,f,zb]
  refine zn ?_<;>(simp only[go_sem,jc,b,Bool.true_and]<;>try rfl)
theorem Kga(e:h[d]? =some (.box 154 (qN s a x c err rows segs bytes q))):
  ACalls Tryz.prog 165 [.ptr d 0] h λr h'=>r=bl (kr q)/\h'=h:=by
 refine zj Tryz.f165 [.tmp 2] 17 rfl rfl rfl rfl rfl rfl (by decide) (⟨_,_,⟨rfl,rfl⟩,.refl⟩) λB=>?_
 simp only[go_sem,e]
 cases b:decide (q.week≥0)
 ·simp only[go_sem,b,qv,e]
  refine zn ?_<;>(simp only[go_sem,kr,b,Bool.false_and]<;>try rfl)
 ·simp only[go_sem,b,qv,e]
  refine zn ?_<;>(simp only[go_sem,kr,b,Bool.true_and]<;>try rfl)
end
def frA(s:Setup):SA:=⟨.sl 3 (s.ways.map Kg),.sl 4 (s.elements.map XM),.sl 2 (s.classes.map jS),.sl 2 (s.gears.map jS),.sl 1 (s.rates.map qz),.sl 2 (s.tiers.map jS)⟩
theorem Jm{h:List Ob}(s:Setup):SIn h s (frA s):=⟨⟨rfl,λ_=>rfl⟩,⟨rfl,λ_=>rfl⟩,⟨rfl,λ_=>rfl⟩,⟨rfl,λ_=>rfl⟩,⟨rfl,λ_=>rfl⟩,⟨rfl,λ_=>rfl⟩⟩
theorem Wma(l:List Way):((l.map Kg).all λr=>r.length==3 && r.all AV.one)=true:=by
 rw[qa];intro r a;obtain⟨s,_,rfl⟩:=zt.1 a;rfl
theorem Wna(l:List Elt):((l.map XM).all λr=>r.length==4 && r.all AV.one)=true:=by
 rw[qa];intro r a;obtain⟨s,_,rfl⟩:=zt.1 a;rfl
theorem j6a(l:List qw):((l.map jS).all λr=>r.length==2 && r.all AV.one)=true:=by
 rw[qa];intro r a;obtain⟨s,_,rfl⟩:=zt.1 a;rfl
theorem Woa(l:List Int):((l.map qz).all λr=>r.length==1 && r.all AV.one)=true:=by
 rw[qa];intro r a;obtain⟨s,_,rfl⟩:=zt.1 a;rfl
theorem Jn{n:Nat}:∀l:List Way,qO n (l.map Kg)=true
 | []=>rfl
 | s::l=>by rw[List.map_cons,qO,Jn l];rfl
theorem Jo{n:Nat}:∀l:List Elt,qO n (l.map XM)=true
 | []=>rfl
 | s::l=>by rw[List.map_cons,qO,Jo l];rfl
theorem ZQ{n:Nat}:∀l:List qw,qO n (l.map jS)=true
 | []=>rfl
 | s::l=>by rw[List.map_cons,qO,ZQ l];rfl
theorem zzb{n:Nat}(s:Setup):(jg s (frA s)).lt n=true:=by
 simp only[frA,AV.lt,qy,Jn,Jo,ZQ,yD,Bool.and_self]
structure SFew (s:Setup):Prop where
 w:s.ways.length<1099511627776
 e:s.elements.length<1099511627776
 c:s.classes.length<1099511627776
 g:s.gears.length<1099511627776
 r:s.rates.length<1099511627776
 t:s.tiers.length<1099511627776
theorem jCb(h:List Ob)(s:Setup)(a:SA)(k:SIn h s a)(f:SFew s):
  ACalls Tryz.prog 76 [jg s a] h λr h'=>r=jg s (frA s)/\h'=h:=by
 refine zj Tryz.f76 [.cell 2 30] 28 rfl rfl rfl rfl rfl rfl (by decide) (⟨_,_,⟨rfl,rfl⟩,.refl⟩) λB=>?_
 simp only[go_sem,k.ones]
 refine zQ rfl [] 0 [(0,0,[]),(3,0,[]),(6,0,[]),(1,0,[]),(4,0,[]),(7,0,[]),(2,0,[4,7]),(9,0,[]),(5,0,[7]),(8,0,[]),(10,0,[]),(11,0,[]),(12,0,[]),(13,0,[]),(14,0,[])] rfl (by decide) (by decide) ?_
 simp only[go_sem,k.ones]
 refine zh (wBa _ a.w _ (k.app _).w (by rw[zb];exact f.w) (Wma _) (Jn _)) ?_
 rintro _ b ⟨rfl,rfl⟩
 simp only[go_sem,k.ones]
 refine zh (wCa _ a.e _ (k.app _).e (by rw[zb];exact f.e) (Wna _) (Jo _)) ?_
 rintro _ b ⟨rfl,rfl⟩
 simp only[go_sem,k.ones]
 refine zh (zCa _ a.c _ (k.app _).c (by rw[zb];exact f.c) (j6a _) (ZQ _)) ?_
 rintro _ b ⟨rfl,rfl⟩
 simp only[go_sem,k.ones]
 refine zQ rfl [] 0 [(0,0,[]),(3,0,[]),(6,0,[]),(1,0,[]),(4,0,[]),(7,0,[]),(2,0,[4,7]),(9,0,[]),(5,0,[7]),(8,0,[]),(10,0,[]),(11,0,[]),(12,0,[]),(13,0,[]),(14,0,[])] rfl (by decide) (by decide) ?_
 simp only[go_sem,k.ones]
 refine zh (zCa _ a.g _ (k.app _).g (by rw[zb];exact f.g) (j6a _) (ZQ _)) ?_
 rintro _ b ⟨rfl,rfl⟩
 simp only[go_sem,k.ones]
 refine zh (wDa _ a.r _ (k.app _).r (by rw[zb];exact f.r) (Woa _) (yD _)) ?_
 rintro _ b ⟨rfl,rfl⟩
 simp only[go_sem,k.ones]
 refine zh (kOa _ a.t _ (k.app _).t (by rw[zb];exact f.t) (j6a _) (ZQ _)) ?_
 rintro _ b ⟨rfl,rfl⟩
 simp only[go_sem,k.ones]
 refine⟨jg s (frA s),by simp only[go_sem];rfl,.inr ⟨h,_,rfl,rfl,zzb s,.refl,rfl,rfl⟩⟩
abbrev Qe(s:Setup)(a:SA)(x c:AV):List AV:=[i64 s.places,a.w,i64 s.pace.1,i64 s.pace.2,a.e,a.c,a.g,i64 s.allow,i64 s.unit,i64 s.cap,i64 s.paidBreak,i64 s.autoAfter,i64 s.autoBreak,
 i64 s.dayReg,i64 s.dayOver,i64 s.weekReg,i64 s.nightFrom,i64 s.nightTo,a.r,i64 s.diff,i64 s.least,i64 s.fault,a.t,x,c]
def jF:AV:= .v (.slice none 0 0)
def zS:Setup:=⟨0,[],(0,0),[],[],[],0,0,0,0,0,0,0,0,0,0,0,[],0,0,0,[]⟩
def zA:SA:=⟨jF,jF,jF,jF,jF,jF⟩
def QHa(s:Setup):AV:=if z6 s then .tup [.ag (Qe s (frA s) jF jF),i64 0] else .tup [.ag (Qe zS zA jF jF),i64 70]
theorem zAb{s:Setup}(h:z6 s=true):SFew s:=by
 simp only[z6,yS,yT,wZ,zq,decide_eq_true_eq] at h
 have d:∀a b c:Int,VAa a b c<=8->a<=8/\b<=8/\c<=8:=λa b c h=>by
  unfold VAa at h
  split at h<;>split at h<;>omega
 have d:=d _ _ _ h.1.1.2.2
 exact⟨by omega,by omega,by omega,by omega,by omega,by omega⟩
theorem x0b(h:List Ob)(s:Setup)(a:SA)(k:SIn h s a)(f:SFit s):
  ACalls Tryz.prog 26 [jg s a] h λr h'=>r=QHa s/\h'=h:=by
 refine zj Tryz.f26 [.cell 2 63,.tmp 3] 11 rfl rfl rfl rfl rfl rfl (by decide) (⟨_,_,⟨rfl,rfl⟩,.refl⟩) λB=>?_
 simp only[go_sem,k.ones]
 refine zh (c16 _ s a (k.app _) f) ?_
 rintro _ d ⟨rfl,rfl⟩
 cases b:z6 s
 ·have c:QHa s= .tup [.ag (Qe zS zA jF jF),i64 70]:=by unfold QHa;rw[b];rfl
  simp only[go_sem,b,qv,Bool.not_false]
  refine⟨.tup [.ag (Qe zS zA jF jF),i64 70],by simp only[go_sem];rfl,.inr ⟨h,_,rfl,rfl,rfl,.refl,c.symm,rfl⟩⟩
 ·have c:QHa s= .tup [.ag (Qe s (frA s) jF jF),i64 0]:=by unfold QHa;rw[if_pos b]
  simp only[go_sem,b,qv,Bool.not_true,k.ones]
  refine zh (jCb _ s a (k.app _) (zAb b)) ?_
  rintro _ d ⟨rfl,rfl⟩
  simp only[go_sem,(Jm (h:=h) s).ones]
  refine⟨.tup [.ag (Qe s (frA s) jF jF),i64 0],by simp only[go_sem];rfl,.inr ⟨h,_,rfl,rfl,?_,.refl,c.symm,rfl⟩⟩
  simp only[frA,jF,AV.lt,qy,Jn,Jo,ZQ,yD,Bool.and_self]
theorem QM(q:List Int × Bool)(a b:List Int):kG q (a++b)=kG (kG q a) b:=by unfold kG;rw[qK]
structure PnH (h:List Ob) (i:Nat) (Q:List Int × Bool) (H:List Ob):Prop where
 eq:∃z L,Sb z Q.1/\H=h.set i (.box 107 [z,bl Q.2])++L/\NoRes L
theorem PnH.app{h:List Ob}{i:Nat}{Q:List Int × Bool}{H:List Ob}(k:PnH h i Q H){M:List Ob}(a:NoRes M):PnH h i Q (H++M):=by
 obtain⟨z,L,k1,k2,k3⟩:=k.eq
 exact⟨z,L++M,k1,by rw[k2,zr],k3.app a⟩
theorem PnH.get{h:List Ob}{i:Nat}{Q:List Int × Bool}{H:List Ob}(k:PnH h i Q H){m:Nat}{o:Ob}(a:m≠i)(b:h[m]? =some o):H[m]? =some o:=by
 obtain⟨z,L,k1,k2,k3⟩:=k.eq
 rw[k2]
 exact ze (by rw[zc (Ne.symm a)];exact b)
theorem zHa{h H:List Ob}{i:Nat}{Q:List Int × Bool}(k:PnH h i Q H)(b:i<h.length)(x:AV)(a:List (AV × Int))(d:SlOf H x 1 (a.map λp=>[p.1]))(n:∀p∈a,jBb H i p.1 p.2)(g:Q.1.length<536870912)(f:a.length<1048576):
  ACalls Tryz.prog 45 [.ptr i 0,x] H λr h'=>r= .tup []/\PnH h i (kG Q (a.map (·.2))) h'/\∀m o,m≠i->H[m]? =some o->h'[m]? =some o:=by
 obtain⟨z,L,k1,k2,k3⟩:=k.eq
 have c:H[i]? =some (.box 107 [z,bl Q.2]):=by rw[k2];exact ze (zo b)
 refine(xZb H i z Q.1 Q.2 x a c k1 d n g f).mono ?_
 rintro r h' ⟨rfl,j,l,rfl⟩
 refine⟨rfl,⟨j,L,l,?_,k3⟩,λm o e q=>by rw[zc (Ne.symm e)];exact q⟩
 rw[k2,qt _ _ (by rw[zJ];exact b),qd]
def XR(R:RowV):List Int:=[R.tot 0,R.tot 1,R.tot 2,R.tot 3,R.tot 4,R.tot 5,R.tot 6]
def Xi(R:RowV):List Int:=[R.pays 0,R.pays 1,R.pays 2,R.pays 3,R.pays 4,R.pays 5,R.pays 6]
def Zd(R:RowV):List Int:=[R.worker,R.week,R.err]++XR R++Xi R++[R.earned.1,R.earned.2,R.perf.1,R.perf.2,R.elig,wr (R.tier+1),R.extra,R.supp,R.total]
theorem zBb(R:RowV)(fl:AV){k:Nat}(a:k<7):nth (vA R fl) (3+k)=i64 (R.tot k)/\(XR R)[k]? =some (R.tot k):=by
 have:k=0∨k=1∨k=2∨k=3∨k=4∨k=5∨k=6:=by omega
 rcases this with rfl|rfl|rfl|rfl|rfl|rfl|rfl<;>exact⟨rfl,rfl⟩
theorem Wpa(R:RowV)(fl:AV){k:Nat}(a:k<7):nth (vA R fl) (10+k)=i64 (R.pays k)/\(Xi R)[k]? =some (R.pays k):=by
 have:k=0∨k=1∨k=2∨k=3∨k=4∨k=5∨k=6:=by omega
 rcases this with rfl|rfl|rfl|rfl|rfl|rfl|rfl<;>exact⟨rfl,rfl⟩
theorem q6a{l:List Int}{k:Nat}{n:Int}(h:l[k]? =some n):l.take (k+1)=l.take k++[n]:=by
 obtain⟨b,a⟩:=zd.1 h
 rw[<-a];exact(zE b).symm
theorem zCb(h:List Ob)(i j:Nat)(z:AV)(Q:List Int × Bool)(R:RowV)(fl:AV)(a:j≠i)(hi:h[i]? =some (.box 107 [z,bl Q.2]))(O:Sb z Q.1)(y:h[j]? =some (.box 45 (vA R fl)))(N:Fit R.tier/\Fit (R.tier+1))(V:AV.one fl=true)(hQ:Q.1.length<268435456):
  ACalls Tryz.prog 49 [.ptr j 0,.fn (.func 45) [.ptr i 0] []] h λr h'=>r= .tup []/\PnH h i (kG Q (Zd R)) h':=by
 have q:=(zd.1 hi).1
 have hex:∃r h',(r=AV.tup []/\PnH h i (kG Q (Zd R)) h')/\ResK h h':=
  ⟨_,h.set i (.box 107 [.sl 1 ((kG Q (Zd R)).1.map xA),bl (kG Q (Zd R)).2]),⟨rfl,_,[],.inl rfl,by simp,jm⟩,qj hi rfl⟩
 have base:PnH h i Q h:=⟨z,[],O,by rw[zM];exact(qS hi).symm,jm⟩
 have v:=λns=>Xg ns Q
 refine zj Tryz.f49 [] 90 rfl rfl rfl rfl rfl rfl (by decide) (hex) λB=>?_
 simp only[go_sem,y]
 refine zQ rfl [.res] 1 [(0,0,[]),(1,0,[]),(2,0,[]),(3,0,[]),(4,0,[]),(5,0,[]),(6,0,[]),(7,0,[]),(8,0,[])] rfl (by decide) (by decide) ?_
 simp only[go_sem]
 have k0:=base.app (M:=[.box 3 [i64 R.err],.row 109 1 [[.ptr j 0],[.ptr j 1],[.ptr h.length 0]] 0]) (zl rfl (zD rfl))
 have o:=k0.get a y
 have x:(h++[Ob.box 3 [i64 R.err],.row 109 1 [[.ptr j 0],[.ptr j 1],[.ptr h.length 0]] 0])[h.length]? =some (.box 3 [i64 R.err]):=by rw[zK rfl];rfl
 refine zh (zHa k0 q (.tl (h.length+1) 0) [(.ptr j 0,R.worker),(.ptr j 1,R.week),(.ptr h.length 0,R.err)] ⟨by rw[q8,zG (k:=1) rfl];rfl,λ_=>by rw[jO,zG (k:=1) rfl];rfl⟩ (λp d=>by
  rcases zy.1 d with rfl|d
  ·exact⟨j,0,_,_,rfl,a,o,by show 0<27;decide,rfl⟩
  rcases zy.1 d with rfl|d
  ·exact⟨j,1,_,_,rfl,a,o,by show 1<27;decide,rfl⟩
  rw[zW] at d
  subst d
  exact⟨h.length,0,_,_,rfl,by omega,x,by show 0<1;decide,rfl⟩) (by omega) (by show 3<1048576;decide)) ?_
 rintro _ Z ⟨rfl,k1,J⟩
 have b:=J j _ a o
 have A:=J h.length _ (by omega) x
 simp only[go_sem,b,A]
 rw[qS b]
 refine zO (by decide) (λm T H=>∃n:Nat,n<=7/\PnH h i (kG Q ([R.worker,R.week,R.err]++(XR R).take n)) H/\T 0= .ptr j 0/\T 1= .fn (.func 45) [.ptr i 0] []/\T 25=i64 n/\m=7 - n) 7
  ⟨0,by omega,k1,by simp only[go_sem],by simp only[go_sem],by(simp only[go_sem]<;>rfl),rfl⟩ ?_
 clear k0 k1 o b x A J
 rintro m T H ⟨n,S,l,t0,t1,t25,rfl⟩
 simp only[go_sem,t25]
 refine ways (λe=>?_) (λe=>?_)
 ·have t:(n:Int)<7:=of_decide_eq_true e
  have c:n<7:=by omega
  have g:=l.get a y
  obtain⟨G,K⟩:=zBb R fl c
  simp only[go_sem,t0,t1,t25,t,c,Nat.mul_one,Int.toNat_natCast,zf]
  have f:=l.app (M:=[.row 109 1 [[.ptr j (3+n)]] 0]) (zD rfl)
  have D:=v ([R.worker,R.week,R.err]++(XR R).take n)
  have s:([R.worker,R.week,R.err]++(XR R).take n).length<=10:=by simp[XR];omega
  refine zh (zHa f q (.tl H.length 0) [(.ptr j (3+n),R.tot n)] ⟨by rw[q8,zK rfl];rfl,λ_=>by rw[jO,zK rfl];rfl⟩ (λp d=>by
   rw[zW] at d
   subst d
   exact⟨j,3+n,_,_,rfl,a,ze g,by show 3+n<27;omega,G⟩) (by omega) (by show 1<1048576;decide)) ?_
  rintro _ H2 ⟨rfl,k2,F⟩
  rw[<-QM] at k2
  simp only[go_sem,t25]
  exact⟨7 - (n+1),by omega,n+1,by omega,by rw[q6a K];simpa using k2,t0,t1,qn (by omega) rfl,rfl⟩
 ·have I:¬ (n:Int)<7:=of_decide_eq_false e
  have w:n=7:=by omega
  subst w
  simp only[go_sem]
  refine zO (by decide) (λm T H=>∃n:Nat,n<=7/\PnH h i (kG Q ([R.worker,R.week,R.err]++XR R++(Xi R).take n)) H/\T 0= .ptr j 0/\T 1= .fn (.func 45) [.ptr i 0] []/\T 37=i64 n/\m=7 - n) 7
   ⟨0,by omega,by simpa [XR] using l,by simp only[go_sem,t0],by simp only[go_sem,t1],by(simp only[go_sem]<;>rfl),rfl⟩ ?_
  clear l t0 t1 t25
  rintro m T H ⟨n,S,l,t0,t1,u,rfl⟩
  simp only[go_sem,u]
  refine ways (λe=>?_) (λe=>?_)
  ·have t:(n:Int)<7:=of_decide_eq_true e
   have c:n<7:=by omega
   have g:=l.get a y
   obtain⟨G,K⟩:=Wpa R fl c
   simp only[go_sem,t0,t1,u,t,c,Nat.mul_one,Int.toNat_natCast,zf]
   have f:=l.app (M:=[.row 109 1 [[.ptr j (10+n)]] 0]) (zD rfl)
   have D:=v ([R.worker,R.week,R.err]++XR R++(Xi R).take n)
   have s:([R.worker,R.week,R.err]++XR R++(Xi R).take n).length<=17:=by simp[XR,Xi];omega
   refine zh (zHa f q (.tl H.length 0) [(.ptr j (10+n),R.pays n)] ⟨by rw[q8,zK rfl];rfl,λ_=>by rw[jO,zK rfl];rfl⟩ (λp d=>by
    rw[zW] at d
    subst d
    exact⟨j,10+n,_,_,rfl,a,ze g,by show 10+n<27;omega,G⟩) (by omega) (by show 1<1048576;decide)) ?_
   rintro _ H2 ⟨rfl,k2,F⟩
   rw[<-QM] at k2
   simp only[go_sem,u]
   exact⟨7 - (n+1),by omega,n+1,by omega,by rw[q6a K];simpa using k2,t0,t1,qn (by omega) rfl,rfl⟩
  ·have I:¬ (n:Int)<7:=of_decide_eq_false e
   have w:n=7:=by omega
   subst w
   have g:=l.get a y
   simp only[go_sem,t0,g]
   refine zQ rfl [.res] 1 [(0,0,[]),(1,0,[]),(2,0,[]),(3,0,[]),(4,0,[]),(5,0,[]),(6,0,[]),(7,0,[]),(8,0,[]),(9,0,[]),(10,0,[]),(11,0,[]),(12,0,[]),(13,0,[]),(14,0,[]),(15,0,[]),(16,0,[]),(17,0,[]),(18,0,[]),(19,0,[]),(20,0,[]),(21,0,[]),(22,0,[]),(23,0,[]),(24,0,[]),(25,0,[]),(26,0,[]),(27,0,[]),(28,0,[]),(29,0,[]),(30,0,[])] rfl (by decide) (by decide) ?_
   simp only[go_sem,t0,t1]
   have W:IntKind.wrap .i64 (R.tier+1)=R.tier+1:=qq (n:=R.tier+1) N.2
   have f:=l.app (M:=[.box 3 [i64 (wr (R.tier+1))],.row 109 1 [[.ptr j 17],[.ptr j 18],[.ptr j 19],[.ptr j 20],[.ptr j 21],[.ptr H.length 0],[.ptr j 23],[.ptr j 24],[.ptr j 25]] 0]) (zl rfl (zD rfl))
   have U:i<H.length:=by
    obtain⟨z0,Y,_,X,_⟩:=l.eq
    rw[X,zg,zJ];omega
   have b:=f.get a y
   have E:(H++[Ob.box 3 [i64 (wr (R.tier+1))],.row 109 1 [[.ptr j 17],[.ptr j 18],[.ptr j 19],[.ptr j 20],[.ptr j 21],[.ptr H.length 0],[.ptr j 23],[.ptr j 24],[.ptr j 25]] 0])[H.length]? =some (.box 3 [i64 (wr (R.tier+1))]):=by rw[zK rfl];rfl
   have D:=v ([R.worker,R.week,R.err]++XR R++(Xi R).take 7)
   have s:([R.worker,R.week,R.err]++XR R++(Xi R).take 7).length<=17:=by simp[XR,Xi]
   refine zh (zHa f q (.tl (H.length+1) 0) [(.ptr j 17,R.earned.1),(.ptr j 18,R.earned.2),(.ptr j 19,R.perf.1),(.ptr j 20,R.perf.2),(.ptr j 21,R.elig),(.ptr H.length 0,wr (R.tier+1)),(.ptr j 23,R.extra),(.ptr j 24,R.supp),(.ptr j 25,R.total)]
    ⟨by rw[q8,zG (k:=1) rfl];rfl,λ_=>by rw[jO,zG (k:=1) rfl];rfl⟩ (λp d=>by
    simp only[zy,List.not_mem_nil,or_false] at d
    rcases d with rfl|rfl|rfl|rfl|rfl|rfl|rfl|rfl|rfl
    ·exact⟨j,17,_,_,rfl,a,b,by show 17<27;decide,rfl⟩
    ·exact⟨j,18,_,_,rfl,a,b,by show 18<27;decide,rfl⟩
    ·exact⟨j,19,_,_,rfl,a,b,by show 19<27;decide,rfl⟩
    ·exact⟨j,20,_,_,rfl,a,b,by show 20<27;decide,rfl⟩
    ·exact⟨j,21,_,_,rfl,a,b,by show 21<27;decide,rfl⟩
    ·exact⟨H.length,0,_,_,rfl,by omega,E,by show 0<1;decide,rfl⟩
    ·exact⟨j,23,_,_,rfl,a,b,by show 23<27;decide,rfl⟩
    ·exact⟨j,24,_,_,rfl,a,b,by show 24<27;decide,rfl⟩
    ·exact⟨j,25,_,_,rfl,a,b,by show 25<27;decide,rfl⟩) (by omega) (by show 9<1048576;decide)) ?_
   rintro _ H2 ⟨rfl,k2,F⟩
   have C:=F j _ a b
   have L:=F H.length _ (by omega) E
   have P:IntKind.wrap .i64 (wr (R.tier+1) - 1)=R.tier:=by
    rw[show wr (R.tier+1)=R.tier+1 from W]
    exact(qq (n:=R.tier+1 - 1) (by have:=N.1;unfold Fit at *; omega)).trans (by omega)
   rw[<-QM] at k2
   simp only[go_sem,t0,C,L,P]
   rw[qS C]
   exact⟨_,rfl,.inl ⟨rfl,by simpa [Zd,Xi,XR] using k2⟩⟩
theorem PnH.base{h M:List Ob}{i:Nat}{Q:List Int × Bool}{H:List Ob}(k:PnH (h++M) i Q H)(hi:i<h.length)(a:NoRes M):PnH h i Q H:=by
 obtain⟨z,L,k1,k2,k3⟩:=k.eq
 exact⟨z,M++L,k1,by rw[k2,qt _ _ hi,zr],a.app k3⟩
theorem PnH.sl{h:List Ob}{i:Nat}{Q:List Int × Bool}{H:List Ob}(k:PnH h i Q H){t:TypeId}{cs:List AV}(hi:h[i]? =some (.box t cs)){x:AV}{e:Nat}{rows:List (List AV)}(a:SlOf h x e rows):SlOf H x e rows:=by
 obtain⟨z,L,k1,k2,k3⟩:=k.eq
 rw[k2]
 exact(a.keep (.setB hi)).app _
def Xj(F:List Flg):List Int:=F.flatMap λf=>[f.id,f.kind]
theorem Wa:∀F:List Flg,(Xj F).length=2*F.length
 | []=>rfl
 | f::F=>by
   have:=Wa F
   unfold Xj at*
   rw[List.flatMap_cons,zg,List.length_cons,this];simp;omega
theorem wKa{F:List Flg}{n:Nat}(h:n<F.length):Xj (F.take (n+1))=Xj (F.take n)++[(F[n]).id,(F[n]).kind]:=by
 unfold Xj
 rw[show F.take (n+1)=F.take n++[F[n]] from(zE h).symm,List.flatMap_append];simp
def wD(R:RowV)(F:List Flg):List Int:=Zd R++[(F.length:Int)]++Xj F
theorem Kv(R:RowV):(Zd R).length=26:=rfl
theorem yYa(h:List Ob)(i:Nat)(z:AV)(Q:List Int × Bool)(R:RowV)(fl:AV)(F:List Flg)(hi:h[i]? =some (.box 107 [z,bl Q.2]))(hz:Sb z Q.1)(ht:Fit R.tier/\Fit (R.tier+1))(L:SlOf h fl 2 (F.map xW))(hQ:Q.1.length<134217728)(ζ:F.length<524288):
  ACalls Tryz.prog 46 [.ptr i 0,.ag (vA R fl)] h λr h'=>r= .tup []/\PnH h i (kG Q (wD R F)) h':=by
 have c:=(zd.1 hi).1
 have v:=L.one
 have hex:∃r h',(r=AV.tup []/\PnH h i (kG Q (wD R F)) h')/\ResK h h':=
  ⟨_,h.set i (.box 107 [.sl 1 ((kG Q (wD R F)).1.map xA),bl (kG Q (wD R F)).2]),⟨rfl,_,[],.inl rfl,by simp,jm⟩,qj hi rfl⟩
 have G:=λns=>Xg ns Q
 refine zj Tryz.f46 [] 29 rfl rfl rfl rfl rfl rfl (by decide) (hex) λB=>?_
 simp only[go_sem,v]
 have P:(h++[Ob.box 45 (vA R fl)])[i]? =some (.box 107 [z,bl Q.2]):=ze hi
 have u:(h++[Ob.box 45 (vA R fl)])[h.length]? =some (.box 45 (vA R fl)):=by rw[zK rfl];rfl
 have o:h.length≠i:=by omega
 refine zh (zCb _ i h.length z Q R fl o P hz u ht v (by omega)) ?_
 rintro _ b ⟨rfl,k1⟩
 have j:=k1.get o u
 have E:qc b fl=some (F.map xW):=by
  obtain⟨z0,Y,_,I,_⟩:=k1.eq
  rw[I,qt _ _ c,zr]
  exact((L.keep (.setB hi)).app _).rows
 simp only[go_sem,j,E,zb]
 have S:=k1.base c (zD rfl)
 have w:=S.app (M:=[.box 3 [i64 F.length],.row 109 1 [[.ptr b.length 0]] 0]) (zl rfl (zD rfl))
 have K:=G (Zd R)
 rw[Kv] at K
 have ε:i<b.length:=by
  obtain⟨z0,Y,_,I,_⟩:=S.eq
  rw[I,zg,zJ];omega
 have a:(b++[Ob.box 3 [i64 F.length],.row 109 1 [[.ptr b.length 0]] 0])[b.length]? =some (.box 3 [i64 F.length]):=by rw[zK rfl];rfl
 have C:(b++[Ob.box 3 [i64 F.length],.row 109 1 [[.ptr b.length 0]] 0])[h.length]? =some (.box 45 (vA R fl)):=ze j
 refine zh (zHa w c (.tl (b.length+1) 0) [(.ptr b.length 0,(F.length:Int))] ⟨by rw[q8,zG (k:=1) rfl];rfl,λ_=>by rw[jO,zG (k:=1) rfl];rfl⟩ (λp t=>by
  rw[zW] at t
  subst t
  exact⟨b.length,0,_,_,rfl,by omega,a,by show 0<1;decide,rfl⟩) (by omega) (by show 1<1048576;decide)) ?_
 rintro _ H2 ⟨rfl,k2,Z⟩
 rw[<-QM] at k2
 have D:=Z h.length _ o C
 have s:=(k2.sl hi L).rows
 simp only[go_sem,D,s,zb]
 refine zO (by decide) (λm T H=>∃n:Nat,n<=F.length/\PnH h i (kG Q (Zd R++[(F.length:Int)]++Xj (F.take n))) H/\T 0= .ptr i 0/\T 17=fl/\T 18=i64 F.length/\T 19=i64 n/\m=F.length - n) F.length
  ⟨0,by omega,by simpa [Xj] using k2,by simp only[go_sem],by simp only[go_sem],by(simp only[go_sem]<;>rfl),by(simp only[go_sem]<;>rfl),rfl⟩ ?_
 clear k1 k2 S w j C D s E a Z
 rintro m T H ⟨n,hn,q,t0,y,x,l,rfl⟩
 simp only[go_sem,x,l]
 refine ways (λe=>?_) (λe=>?_)
 ·have f:=dlt e
  have d:=yRa f
  have O:(n:Int)<F.length:=by omega
  have J:=q.sl hi L
  have V:=J.at (i:=n) (by rw[zb];exact f)
  have W:=J.rows
  have A:=wKa f
  obtain⟨g,hg⟩:∃g,g=F[n]:=⟨_,rfl⟩
  rw[<-hg] at d A
  simp only[go_sem,t0,y,l,V,W,d,O,zb,Int.toNat_natCast,zf]
  have δ:i<H.length:=by
   obtain⟨z0,Y,_,I,_⟩:=q.eq
   rw[I,zg,zJ];omega
  have U:=q.app (M:=[.box 105 [i64 g.id,i64 g.kind],.row 109 1 [[.ptr H.length 0],[.ptr H.length 1]] 0]) (zl rfl (zD rfl))
  have a:(H++[Ob.box 105 [i64 g.id,i64 g.kind],.row 109 1 [[.ptr H.length 0],[.ptr H.length 1]] 0])[H.length]? =some (.box 105 [i64 g.id,i64 g.kind]):=by rw[zK rfl];rfl
  have K:=G (Zd R++[(F.length:Int)]++Xj (F.take n))
  have X:(Zd R++[(F.length:Int)]++Xj (F.take n)).length<=27+2*F.length:=by
   rw[zg,zg,Kv,Wa,zH]
   show 26+1+_<=_
   omega
  refine zh (zHa U c (.tl (H.length+1) 0) [(.ptr H.length 0,g.id),(.ptr H.length 1,g.kind)] ⟨by rw[q8,zG (k:=1) rfl];rfl,λ_=>by rw[jO,zG (k:=1) rfl];rfl⟩ (λp t=>by
   simp only[zy,List.not_mem_nil,or_false] at t
   rcases t with rfl|rfl
   ·exact⟨H.length,0,_,_,rfl,by omega,a,by show 0<2;decide,rfl⟩
   ·exact⟨H.length,1,_,_,rfl,by omega,a,by show 1<2;decide,rfl⟩) (by omega) (by show 2<1048576;decide)) ?_
  rintro _ H3 ⟨rfl,k3,g3⟩
  rw[<-QM] at k3
  simp only[go_sem,l]
  exact⟨F.length - (n+1),by omega,n+1,by omega,by rw[A];simpa using k3,t0,y,x,qn (by omega) rfl,rfl⟩
 ·have γ:=xr e
  have N:n=F.length:=by omega
  subst N
  rw[zV] at q
  simp only[go_sem]
  exact⟨_,rfl,.inl ⟨rfl,q⟩⟩
def Qn(R:RowV)(F:List Flg):Bool:= !(decide (R.err>100000) || decide ((F.length:Int)>200)) && (kG ([],true) (wD R F)).2
theorem zDb(h:List Ob)(R:RowV)(fl:AV)(F:List Flg)(i:Fit R.tier/\Fit (R.tier+1))(d:SlOf h fl 2 (F.map xW))(e:F.length<524288):
  ACalls Tryz.prog 19 [.ag (vA R fl)] h λr h'=>r=bl (Qn R F)/\h'=h:=by
 have f:=d.one
 have b:∀M,qc (h++M) fl=some (F.map xW):=λM=>(d.app M).rows
 refine zj Tryz.f19 [.tmp 2] 18 rfl rfl rfl rfl rfl rfl (by decide) (⟨_,_,⟨rfl,rfl⟩,.refl⟩) λB=>?_
 simp only[go_sem,f]
 cases a:decide (R.err>100000)
 ·cases c:decide ((F.length:Int)>200)
  ·simp only[go_sem,a,c,qv,b,zb]
   have hi:(h++[Ob.box 45 (vA R fl),.box 107 [.v (.slice none 0 0),bl true]])[h.length+1]? =some (.box 107 [.v (.slice none 0 0),bl true]):=by rw[zG (k:=1) rfl];rfl
   refine zh (yYa _ (h.length+1) (.v (.slice none 0 0)) ([],true) R fl F hi (.inr ⟨rfl,rfl⟩) i (d.app _) (by decide) e) ?_
   rintro _ j ⟨rfl,k1⟩
   obtain⟨z,L,m,g,z3⟩:=k1.eq
   have l:j[h.length+1]? =some (.box 107 [z,bl (kG ([],true) (wD R F)).2]):=by rw[g];exact ze (zo (by simp))
   simp only[go_sem,l]
   refine⟨bl (kG ([],true) (wD R F)).2,by simp only[go_sem],.inr ⟨h,[.box 45 (vA R fl),.box 107 [z,bl (kG ([],true) (wD R F)).2]]++L,?_,rfl,rfl,.refl,?_,rfl⟩⟩
   ·rw[g,zT _ _ (by omega),show h.length+1 - h.length=1 by omega,zr];rfl
   ·unfold Qn;rw[a,c];rfl
  ·simp only[go_sem,a,c,qv,b,zb]
   refine zn ?_<;>(simp only[go_sem,Qn,a,c,Bool.or_true,Bool.not_true,Bool.false_and]<;>try rfl)
 ·simp only[go_sem,a,qv]
  refine zn ?_<;>(simp only[go_sem,Qn,a,Bool.true_or,Bool.not_true,Bool.false_and]<;>try rfl)
def JA(W:List (RowV × List Flg)):List Int:=W.flatMap λq=>wD q.1 q.2
def okW(W:List (RowV × List Flg)):Bool:=W.all λq=>Qn q.1 q.2
def jY(W:List (RowV × List Flg)):List Int × Int:=if okW W then((kG ([],true) ([(W.length:Int)]++JA W)).1,0) else([],200)
abbrev RwA:=RowV × AV × List Flg
def kJ(W:List RwA):List (RowV × List Flg):=W.map λq=>(q.1,q.2.2)
theorem q7a:∀W:List (RowV × List Flg),okW W=true->(JA W).length<=427*W.length
 | [],_=>by simp[JA]
 | q::W,h=>by
   unfold okW at h
   rw[List.all_cons,zq] at h
   have c:=q7a W h.2
   have b:(wD q.1 q.2).length<=427:=by
    have a:=h.1
    unfold Qn at a
    simp only[zq,Bool.not_eq_true',zY,decide_eq_false_iff_not] at a
    unfold wD
    rw[zg,zg,Kv,Wa]
    show 26+1+_<=_
    omega
   unfold JA at*
   rw[List.flatMap_cons,zg,List.length_cons]
   omega
theorem PnH.trans{h H d:List Ob}{i:Nat}{Q Q':List Int × Bool}(k:PnH h i Q H)(k':PnH H i Q' d)(hi:i<h.length):PnH h i Q' d:=by
 obtain⟨z,L,k1,k2,k3⟩:=k.eq
 obtain⟨f,e,c,a,b⟩:=k'.eq
 exact⟨f,L++e,c,by rw[a,k2,qt _ _ (by rw[zJ];exact hi),qd,zr],k3.app b⟩
theorem wLa{W:List RwA}{n:Nat}(h:n<W.length):kJ (W.take (n+1))=kJ (W.take n)++[((W[n]).1,(W[n]).2.2)]:=by
 unfold kJ
 rw[show W.take (n+1)=W.take n++[W[n]] from(zE h).symm,zw];rfl
theorem PnH.over{h b H:List Ob}{o:Ob}{Q:List Int × Bool}(a:b=h++[o])(k:PnH b h.length Q H):∃L,H=h++L:=by
 obtain⟨z,L,k1,k2,k3⟩:=k.eq
 subst a
 refine⟨[.box 107 [z,bl Q.2]]++L,?_⟩
 rw[k2,zT _ _ (zp _),Nat.sub_self,zr]
 rfl
theorem Wqa(h:List Ob)(x:AV)(W:List RwA)(hx:SlOf h x 27 (W.map λq=>vA q.1 q.2.1))(hF:∀q∈W,SlOf h q.2.1 2 (q.2.2.map xW)/\(Fit q.1.tier/\Fit (q.1.tier+1))/\q.2.2.length<524288)(hl:W.length<4096):
  ACalls Tryz.prog 15 [x] h λr h'=>(∃z,Sb z (jY (kJ W)).1/\r= .tup [z,i64 (jY (kJ W)).2])/\h'=h:=by
 have hex:∃r h',((∃z,Sb z (jY (kJ W)).1/\r=AV.tup [z,i64 (jY (kJ W)).2])/\h'=h)/\ResK h h':=⟨_,_,⟨⟨_,.inl rfl,rfl⟩,rfl⟩,.refl⟩
 have υ:=hx.rows
 have δ:∀M,qc (h++M) x=some (W.map λq=>vA q.1 q.2.1):=λM=>(hx.app M).rows
 refine zj Tryz.f15 [.tmp 2,.tmp 3] 27 rfl rfl rfl rfl rfl rfl (by decide) (hex) λB=>?_
 simp only[go_sem,δ,zb]
 obtain⟨j,a⟩:∃j,j=h++[Ob.box 107 [.v (.slice none 0 0),bl true]]:=⟨_,rfl⟩
 have hi:j[h.length]? =some (.box 107 [.v (.slice none 0 0),bl true]):=by rw[a,zK rfl];rfl
 have s:h.length<j.length:=by rw[a];simp
 have base:PnH j h.length ([],true) j:=⟨_,[],.inr ⟨rfl,rfl⟩,by rw[zM];exact(qS hi).symm,jm⟩
 have w:=base.app (M:=[.box 3 [i64 W.length],.row 109 1 [[.ptr (h.length+1) 0]] 0]) (zl rfl (zD rfl))
 have hE:j++[Ob.box 3 [i64 W.length],.row 109 1 [[.ptr (h.length+1) 0]] 0]=h++[Ob.box 107 [.v (.slice none 0 0),bl true],.box 3 [i64 W.length],.row 109 1 [[.ptr (h.length+1) 0]] 0]:=by rw[a];simp
 rw[hE] at w
 refine zh (zHa w s (.tl (h.length+2) 0) [(.ptr (h.length+1) 0,(W.length:Int))] ⟨by rw[q8,zG (k:=2) rfl];rfl,λ_=>by rw[jO,zG (k:=2) rfl];rfl⟩ (λp hp=>by
  rw[zW] at hp
  subst hp
  exact⟨h.length+1,0,_,_,rfl,by omega,by rw[zG (k:=1) rfl];rfl,by show 0<1;decide,rfl⟩) (by decide) (by show 1<1048576;decide)) ?_
 rintro _ H2 ⟨rfl,k2,g2⟩
 have O:SlOf j x 27 (W.map λq=>vA q.1 q.2.1):=by rw[a];exact hx.app _
 have X:∀q∈W,SlOf j q.2.1 2 (q.2.2.map xW):=λq hq=>by rw[a];exact(hF q hq).1.app _
 have N:=(k2.sl hi O).rows
 simp only[go_sem,N,zb]
 refine zO (by decide) (λm T H=>∃n:Nat,n<=W.length/\okW (kJ (W.take n))=true/\PnH j h.length (kG ([],true) ([(W.length:Int)]++JA (kJ (W.take n)))) H/\T 4= .ptr h.length 0/\T 13=x/\T 14=i64 W.length/\T 15=i64 n/\m=W.length - n) W.length
  ⟨0,by omega,rfl,by simpa [JA,kJ] using k2,by simp only[go_sem],by simp only[go_sem],by(simp only[go_sem]<;>rfl),by(simp only[go_sem]<;>rfl),rfl⟩ ?_
 clear k2 w g2 N
 rintro m T H ⟨n,hn,c,t,t4,S,I,A,rfl⟩
 simp only[go_sem,I,A]
 refine ways (λe=>?_) (λe=>?_)
 ·have l:=dlt e
  have d:(W.map λq=>vA q.1 q.2.1)[n]? =some (vA (W[n]).1 (W[n]).2.1):=by rw[zz,zi l];rfl
  have Z:(n:Int)<W.length:=by omega
  have Q:=t.sl hi O
  have η:=Q.at (i:=n) (by rw[zb];exact l)
  have θ:=Q.rows
  have o:=wLa l
  have b:=zx l
  obtain⟨⟨R,fl,F⟩,hg⟩:∃g,g=W[n]:=⟨_,rfl⟩
  rw[<-hg] at d o b
  obtain⟨q1,q2,q3⟩:=hF _ b
  have u:=X _ b
  simp only at d o q1 q2 q3 u
  have f:=t.sl hi u
  have G:=f.one
  simp only[go_sem,t4,S,A,η,θ,d,Z,G,zb,Int.toNat_natCast,zf]
  refine zh (zDb _ R fl F q2 (f.app _) q3) ?_
  rintro _ H3 ⟨rfl,e3⟩
  rw[e3]
  cases U:Qn R F
  ·have J:okW (kJ W)=false:=by
    unfold okW
    rw[List.all_eq_false]
    exact⟨(R,F),zt.2 ⟨(R,fl,F),b,rfl⟩,by simp[U]⟩
   have E:jY (kJ W)=([],200):=by unfold jY;rw[J];rfl
   simp only[go_sem,U,qv,Bool.not_false]
   obtain⟨L',C⟩:=(t.app (M:=[Ob.box 45 (vA R fl)]) (zD rfl)).over a
   exact⟨.tup [.v (.slice none 0 0),i64 200],rfl,.inr ⟨h,L',C,rfl,rfl,.refl,⟨_,by rw[E];exact .inr ⟨rfl,rfl⟩,by rw[E]⟩,rfl⟩⟩
  ·have K:okW (kJ (W.take (n+1)))=true:=by
    rw[o];unfold okW at c ⊢;rw[List.all_append,c];simp[U]
   simp only[go_sem,U,qv,Bool.not_true,t4,G]
   obtain⟨z,L,V,z2,z3⟩:=t.eq
   have y:(H++[Ob.box 45 (vA R fl)])[h.length]? =some (.box 107 [z,bl (kG ([],true) ([(W.length:Int)]++JA (kJ (W.take n)))).2]):=by
    rw[z2];exact ze (ze (zo s))
   have P:=Xg ([(W.length:Int)]++JA (kJ (W.take n))) ([],true)
   have ξ:=q7a _ c
   have τ:(kJ (W.take n)).length<=W.length:=by unfold kJ;rw[zb,zH];omega
   have D:(kG ([],true) ([(W.length:Int)]++JA (kJ (W.take n)))).1.length<134217728:=by
    rw[zg] at P
    simp only[List.length_nil,List.length_cons] at P
    omega
   refine zh (yYa _ h.length z _ R fl F y V q2 (f.app _) D q3) ?_
   rintro _ H4 ⟨rfl,k4⟩
   have k5:=(t.app (M:=[Ob.box 45 (vA R fl)]) (zD rfl)).trans k4 s
   rw[<-QM] at k5
   simp only[go_sem,A]
   exact⟨W.length - (n+1),by omega,n+1,by omega,K,by rw[o];simpa [JA] using k5,t4,S,I,qn (by omega) rfl,rfl⟩
 ·have ο:=xr e
  have Y:n=W.length:=by omega
  subst Y
  rw[zV] at c t
  have E:jY (kJ W)=((kG ([],true) ([(W.length:Int)]++JA (kJ W))).1,0):=by
   unfold jY;rw[c];simp[kJ]
  obtain⟨z,L,V,z2,z3⟩:=t.eq
  have y:H[h.length]? =some (.box 107 [z,bl (kG ([],true) ([(W.length:Int)]++JA (kJ W))).2]):=by
   rw[z2];exact ze (zo s)
  simp only[go_sem,t4,y]
  obtain⟨L',C⟩:=t.over a
  exact⟨.tup [z,i64 0],rfl,.inr ⟨h,L',C,rfl,by simp only[AV.lt,qy,V.lt,Bool.and_self],.refl,⟨z,by rw[E];exact V,by rw[E]⟩,rfl⟩⟩
theorem Kha(h:List Ob)(x:AV)(W:List RwA)(c:SlOf h x 27 (W.map λq=>vA q.1 q.2.1))(f:∀q∈W,SlOf h q.2.1 2 (q.2.2.map xW)/\(Fit q.1.tier/\Fit (q.1.tier+1))/\q.2.2.length<524288)(d:W.length<4096):
  ACalls Tryz.prog 15 [x] h λr h'=>r= .tup [.sl 1 ((jY (kJ W)).1.map xA),i64 (jY (kJ W)).2]/\h'=h:=
 wN (Wqa h x W c f d) λr h' ⟨⟨z,e,g⟩,a⟩=>by
  subst g
  rcases e with rfl|⟨rfl,b⟩
  ·exact⟨_,⟨rfl,a⟩,.refl _⟩
  ·refine⟨_,⟨rfl,a⟩,.two ?_ (.refl _)⟩
   rw[b]
   exact .nil 1
