import Derived.Test.YtigdlmpjijhpaaaGreatKA
import Derived.Test.YtigdlmpjijhpaaaGreatK34
import Derived.Test.YtigdlmpjijhpaaaGreatK38
import Derived.Test.YtigdlmpjijhpaaaGreatK32
import Derived.Test.YtigdlmpjijhpaaaGreatK39
import Derived.Lib.Strings
import Derived.Lib.Slices
import Derived.Lib.Small
import Derived.Lib.Walk
import Derived.Lib.BitFns
set_option linter.all false
namespace Go.Proofs.YtigdlmpjijhpaaaGreat.Ax
open Go Go.Proofs
theorem Wa{n b:Int}(a:0<b):ofI n b=qI n 32054399 / b:=by
 have h0:0<=qI n 32054399:=by unfold qI;omega
 have d:qI n 32054399<=32054399:=by unfold qI;omega
 have c:0<=qI n 32054399 / b:=Int.ediv_nonneg h0 (by omega)
 have e:qI n 32054399 / b<=qI n 32054399:=Int.ediv_le_self b h0
 unfold ofI
 rw[Int.tdiv_eq_ediv_of_nonneg h0,qp (by unfold Fit;omega)]
theorem QN{a c b:Int}(d:0<b)(h:a<=c):ofI a b<=ofI c b:=by
 rw[Wa d,Wa d]
 exact Int.ediv_le_ediv d (by unfold qI;omega)
theorem Vm{t:Int}(h0:0<=t)(a:t<32054400):qI t 32054399=t:=by unfold qI;omega
theorem Wxa{t k:Int}(h0:0<=t)(a:t<32054400)(b:k*604800<=t)(c:t<(k+1)*604800):xW t=k:=by
 unfold xW
 rw[Wa (by decide),Vm h0 a]
 omega
theorem zHa{t d:Int}(h0:0<=t)(a:t<32054400)(b:d*86400<=t)(c:t<(d+1)*86400):jY t=d/\xW t=d / 7:=by
 unfold xW jY
 rw[Wa (by decide),Wa (by decide),Vm h0 a]
 omega
theorem zJb{t:Int}(h0:0<=t)(a:t<32054400):jY t*86400<=t/\t<(jY t+1)*86400:=by
 unfold jY
 rw[Wa (by decide),Vm h0 a]
 omega
def Out(s:Setup)(n wk:Int):Prop:=∀x,n - (s.unit+s.cap)<=x->x<=n+(s.unit+s.cap)->xW x≠wk
theorem zKb{s:Setup}(c:z6 s=true){n wk:Int}(g:0<=n/\n<=31449599)(h:¬ ((yi s n).1<=wk/\wk<=(yi s n).2)):Out s n wk:=by
 obtain⟨⟨p,m⟩,q,o⟩:=jU c
 intro x l f a
 apply h
 have j:qI n 32054399=n:=Vm g.1 (by omega)
 have i:qI s.unit 604800=s.unit:=by unfold qI;omega
 have b:qI s.cap 604800=s.cap:=by unfold qI;omega
 have d:wr (s.unit+s.cap)=s.unit+s.cap:=qp (by unfold Fit;omega)
 have e:wr (n - (s.unit+s.cap))=n - (s.unit+s.cap):=qp (by unfold Fit;omega)
 have k:wr (n+(s.unit+s.cap))=n+(s.unit+s.cap):=qp (by unfold Fit;omega)
 unfold yi
 simp only[j,i,b,d,e,k]
 rw[<-a]
 exact⟨QN (by decide) l,QN (by decide) f⟩
theorem Kia{o:List Int}{d:Int}(h:∀x,o.getLast? =some x->x<=d):d∈Jj o d/\(∀x∈o,x∈Jj o d)/\∀x,(Jj o d).getLast? =some x->x=d:=by
 unfold Jj
 cases b:o.getLast? with
 | none=>
   rw[List.getLast?_eq_none_iff] at b
   subst b
   exact⟨.head _,λx a=>(by cases a),λx a=>by simpa using a.symm⟩
 | some y=>
   have c:=h y b
   simp only
   split
   ·exact⟨by simp,λx a=>by simp[a],λx a=>by simpa using a.symm⟩
   ·have e:y=d:=by omega
    subst e
    exact⟨List.mem_of_getLast? b,λ_ h=>h,λx a=>by rw[b] at a;injection a with a;exact a.symm⟩
theorem kVa{o:List Int}{a:Int}(h:∀x,o.getLast? =some x->x<=a):∀k:Nat,(∀x∈o,x∈Kp o a k)/\(∀j:Nat,j<k->a+j∈Kp o a k)/\∀x,(Kp o a k).getLast? =some x->x<=a+(k:Int) - 1∨x<=a
 | 0=>⟨λ_ h=>h,λj e=>by omega,λx b=> .inr (h x b)⟩
 | k+1=>by
   obtain⟨i,g,f⟩:=kVa h k
   obtain⟨k1,k2,k3⟩:=Kia (o:=Kp o a k) (d:=a+k) (λx b=>by have:=f x b;omega)
   rw[Kp]
   refine⟨λx b=>k2 x (i x b),λj e=>?_,λx b=> .inl ?_⟩
   ·by_cases c:j=k
    ·subst c;exact k1
    ·exact k2 _ (g j (by omega))
   ·have:=k3 x b
    omega
theorem q6a:∀(L:List Spn) (o:List Int),PlainS L->(∀s∈L,0<=s.from_/\s.from_<s.to_/\s.to_<=32054400)->(∀x,o.getLast? =some x->∀s∈L,x<=jY s.from_)->(∀x∈o,x∈L.foldl kT o)/\∀s∈L,∀t,s.from_<=t->t<s.to_->jY t∈L.foldl kT o
 | [],o,_,_,_=>⟨λ_ h=>h,λ_ h=>by cases h⟩
 | s::L,o,g,hi,j=>by
   rw[List.foldl_cons]
   have n:=hi s (.head _)
   obtain⟨l,m,k⟩:=kVa (o:=o) (a:=jY s.from_) (λx b=>j x b s (.head _)) (jY (s.to_ - 1) - jY s.from_+1).toNat
   have d:jY s.from_<=jY (s.to_ - 1):=QN (by decide) (by omega)
   have e:=q6a L (kT o s) g.tail (λx b=>hi x (.tail _ b)) (λx b y c=>by
    have f:=k x b
    have i:=(zR.1 g.gap).1 y c
    have p:jY (s.to_ - 1)<=jY y.from_:=QN (by decide) (by omega)
    omega)
   refine⟨λx b=>e.1 x (l x b),λy c t f i=>?_⟩
   rcases zx.1 c with rfl|c
   ·have r:jY y.from_<=jY t:=QN (by decide) f
    have q:jY t<=jY (y.to_ - 1):=QN (by decide) (by omega)
    have:=m (jY t - jY y.from_).toNat (by omega)
    rw[show jY y.from_+((jY t - jY y.from_).toNat:Int)=jY t by omega] at this
    exact e.1 _ this
   ·exact e.2 y c t f i
theorem kWa{l:List Spn}{t:Int}(h0:0<=t)(b:t<32054400)(h:Cov l t):jY t∈qR l:=by
 obtain⟨s,a,k1,k2⟩:=(ju l t).2 ⟨h0,b,h⟩
 exact(q6a (qz l) [] (vi l) va (λ_ h=>by cases h)).2 s a t k1 k2
theorem yZa{a b t:Int}:Cov [⟨a,b⟩] t↔a<=t/\t<b:=by
 rw[jT]
 simp[Ja]
theorem XL{a b:List Spn}{n size:Int}(h:∀t,0<=t->t<32054400->n*size<=t->t<(n+1)*size->(Cov a t↔Cov b t)):vk a n size=vk b n size:=by
 unfold vk
 split
 ·rfl
 ·unfold Vg
  refine YX λt h0 f=>?_
  rw[VV,VV,ju a,ju b,ju [_],yZa]
  constructor
  ·rintro ⟨⟨_,_,c⟩,i,g,e,d⟩
   exact⟨⟨h0,f,(h t h0 f e d).1 c⟩,i,g,e,d⟩
  ·rintro ⟨⟨_,_,c⟩,i,g,e,d⟩
   exact⟨⟨h0,f,(h t h0 f e d).2 c⟩,i,g,e,d⟩
theorem QO{a:List Spn}{n size t:Int}(h:Cov (vk a n size) t):(0<=t/\t<32054400)/\Cov a t/\n*size<=t/\t<(n+1)*size:=by
 unfold vk at h
 split at h
 ·exact absurd h Ja
 ·rw[Vh,yZa] at h
  exact⟨h.1,h.2.1,h.2.2⟩
section
variable {s:Setup} {L L1 L2:List Seg} {wk d t:Int}
structure SameW (L1 L2:List Seg) (wk:Int):Prop where
 clock:∀t,0<=t->t<32054400->xW t=wk->(Cov (L1.map spS) t↔Cov (L2.map spS) t)
 rest:∀t,0<=t->t<32054400->xW t=wk->(Cov ((L1.filter λg=>g.kind==3).map spS) t↔Cov ((L2.filter λg=>g.kind==3).map spS) t)
theorem q7a(h:SameW L1 L2 wk)(f:d / 7=wk):xm (qV L1) d=xm (qV L2) d:=XL λt h0 a c b=>by
 have e:=(zHa h0 a c b).2
 unfold qV
 rw[ju,ju]
 have:=h.clock t h0 a (by omega)
 simp[h0,a,this]
theorem Kja(h:SameW L1 L2 wk)(f:d / 7=wk):xm (vj L1 3) d=xm (vj L2 3) d:=XL λt h0 a c b=>by
 have e:=(zHa h0 a c b).2
 unfold vj
 rw[ju,ju]
 have:=h.rest t h0 a (by omega)
 simp[h0,a,this]
theorem Kka(h:SameW L1 L2 wk)(a:d / 7=wk):xX s L1 d=xX s L2 d:=by
 unfold xX
 rw[q7a h a,Kja h a]
theorem Kla(h:SameW L1 L2 wk)(a:d / 7=wk):jZ s L1 d=jZ s L2 d:=by
 unfold jZ
 rw[q7a h a,Kka h a]
theorem wNa{k:Int}(h:Cov (vj L k) t):Cov (qV L) t:=by
 unfold vj at h
 unfold qV
 rw[ju] at h⊢
 obtain⟨h0,d,x,a,c⟩:=h
 obtain⟨g,b,rfl⟩:=zr.1 a
 exact⟨h0,d,_,zr.2 ⟨g,(zT.1 b).1,rfl⟩,c⟩
theorem Kma(h:Cov (xX s L d) t):(0<=t/\t<32054400)/\Cov (qV L) t/\d*86400<=t/\t<(d+1)*86400:=by
 have key:Cov (xm (qV L) d) t∨Cov (xm (vj L 3) d) t:=by
  unfold xX wD at h
  rw[ju,jTa] at h
  rcases h.2.2 with q|q
  ·exact .inr (wI.1 q).2.1
  ·unfold ZP at q
   split at q
   ·unfold J7 at q
    split at q
    ·exact absurd q Ja
    ·exact .inl (wI.1 (wI.1 q).2.1).2.1
   ·exact absurd q Ja
 rcases key with q|q
 ·exact QO q
 ·obtain⟨c,a,b⟩:=QO q
  exact⟨c,wNa a,b⟩
theorem y0a(h:Cov (jZ s L d) t):(0<=t/\t<32054400)/\Cov (qV L) t/\d*86400<=t/\t<(d+1)*86400:=by
 unfold jZ at h
 exact QO (wI.1 h).2.1
theorem zIa{f:Int->List Spn}:∀ {l:List Int},Cov (l.flatMap f) t↔∃d∈l,Cov (f d) t
 | []=>by simp[Ja]
 | x::l=>by rw[List.flatMap_cons,jTa,zIa];simp
theorem kXa(h0:0<=t)(b:t<32054400):Cov (yh s L) t↔Cov (jZ s L (jY t)) t:=by
 unfold yh
 rw[ju,zIa]
 constructor
 ·rintro ⟨_,_,d,_,a⟩
  obtain⟨_,_,c,e⟩:=y0a a
  rw[(zHa h0 b c e).1]
  exact a
 ·intro a
  exact⟨h0,b,_,kWa h0 b (y0a a).2.1,a⟩
theorem kYa(h0:0<=t)(b:t<32054400):Cov (we s L) t↔Cov (xX s L (jY t)) t:=by
 unfold we
 rw[ju,zIa]
 constructor
 ·rintro ⟨_,_,d,_,a⟩
  obtain⟨_,_,c,e⟩:=Kma a
  rw[(zHa h0 b c e).1]
  exact a
 ·intro a
  exact⟨h0,b,_,kWa h0 b (Kma a).2.1,a⟩
theorem wOa(h:SameW L1 L2 wk):vt s L1 wk=vt s L2 wk:=by
 have f:∀t,0<=t->t<32054400->wk*604800<=t->t<(wk+1)*604800->jY t / 7=wk:=λt h0 a b c=>by
  have e:=Wxa h0 a b c
  have d:=zJb h0 a
  have g:=(zHa h0 a d.1 d.2).2
  omega
 have e:jr (yh s L1) wk=jr (yh s L2) wk:=XL λt h0 a b c=>by
  rw[kXa h0 a,kXa h0 a,Kla h (f t h0 a b c)]
 have d:jr (we s L1) wk=jr (we s L2) wk:=XL λt h0 a b c=>by
  rw[kYa h0 a,kYa h0 a,Kka h (f t h0 a b c)]
 unfold vt JA
 rw[e,d]
end
section
variable {s:Setup} {n wk:Int} {L L1 L2:List Seg}
theorem Yb(j:Out s n wk)(r:Seg->Bool){t:Int}(i:xW t=wk):Cov ((L.filter r).map spS) t↔Cov (((QD s n L).filter r).map spS) t:=by
 constructor
 ·rintro ⟨x,b,f,h⟩
  obtain⟨g,a,rfl⟩:=zr.1 b
  obtain⟨a,e⟩:=zT.1 a
  have f:g.from_<=t:=f
  have h:t<g.to_:=h
  refine⟨_,zr.2 ⟨g,zT.2 ⟨zT.2 ⟨a,?_⟩,e⟩,rfl⟩,f,h⟩
  cases d:inG s n g
  ·rfl
  ·simp only[inG,zq,decide_eq_true_eq] at d
   exact absurd i (j t (by omega) (by omega))
 ·rintro ⟨x,b,c⟩
  obtain⟨g,a,rfl⟩:=zr.1 b
  obtain⟨a,e⟩:=zT.1 a
  exact⟨_,zr.2 ⟨g,zT.2 ⟨(zT.1 a).1,e⟩,rfl⟩,c⟩
theorem Kna(b:Out s n wk)(h:QD s n L1=QD s n L2):SameW L1 L2 wk:=by
 refine⟨λt _ _ a=>?_,λt _ _ a=>?_⟩
 ·have k1:=Yb (L:=L1) b (λ_=>true) a
  have k2:=Yb (L:=L2) b (λ_=>true) a
  rw[h] at k1
  rw[Jd (λ_ _=>rfl)] at k1 k2
  exact k1.trans k2.symm
 ·rw[Yb b _ a,Yb (L:=L2) b _ a,h]
theorem kZa(d:Out s n wk)(c:RiseTo L 32054400):L.filter (jI wk)=(QD s n L).filter (jI wk):=by
 unfold QD
 rw[List.filter_filter]
 refine List.filter_congr λg b=>?_
 have b:=c.each g b
 cases a:inG s n g
 ·simp
 ·simp only[inG,zq,decide_eq_true_eq] at a
  have:=d g.from_ (by omega) (by omega)
  simp[jI,this]
end
theorem QKa{s:Setup}{a b:List Ev}{L1 L2:List Seg}{k:Int}(d:L1.filter (jI k)=L2.filter (jI k))(f:∀g∈L1.filter (jI k),vd a g=vd b g)(i:kx a k=kx b k):WC s a L1 k=WC s b L2 k:=by
 have h:(L1.filter (jI k)).map (λg=>(xS s (vd a g)).1)=(L2.filter (jI k)).map λg=>(xS s (vd b g)).1:=by
  rw[<-d]
  exact List.map_congr_left λg c=>by rw[f g c]
 have j:(L1.filter (jI k)).foldl (λz g=>jg z ((0,1),(xS s (vd a g)).2)) ((0,1),0)=(L2.filter (jI k)).foldl (λz g=>jg z ((0,1),(xS s (vd b g)).2)) ((0,1),0):=by
  have e:∀(l:List Seg) (E:List Ev) (z:qx × Int),l.foldl (λz g=>jg z ((0,1),(xS s (vd E g)).2)) z=(l.map λg=>(xS s (vd E g)).2).foldl (λz x=>jg z ((0,1),x)) z:=λl E z=>by rw[List.foldl_map]
  rw[e,e, <-d]
  congr 1
  exact List.map_congr_left λg c=>by rw[f g c]
 unfold WC
 simp only[h,j]
 simp only[d,i]
theorem q8a(x:Ev):∀l:List Ev,∃A B,l=A++B/\vH x l=A++x::B
 | []=>⟨[],[],rfl,rfl⟩
 | y::l=>by
   rw[jA]
   split
   ·obtain⟨A,B,a,b⟩:=q8a x l
    exact⟨y::A,B,by rw[a];rfl,by rw[b];rfl⟩
   ·exact⟨[],y::l,rfl,rfl⟩
section
variable {s:Setup} {A B:List Ev} {e:Ev} {w wk:Int}
theorem j6a(i:z6 s=true)(d:Srt (A++e::B))(q:Int->Bool)(t:∀x∈A++e::B,e.at_ - s.cap<=x.at_->x.at_<=e.at_+s.cap->q x.id=true)(g:∀x∈A++e::B,vK s x=true):
  QD s e.at_ (qA s (A++B) w).1=QD s e.at_ (qA s (A++e::B) w).1/\yD q (qA s (A++B) w).2=yD q (qA s (A++e::B) w).2:=by
 obtain⟨k1,k2,k3⟩:=xn.1 d
 have n:Srt B:=k2.2
 have k:Srt (A++B):=xn.2 ⟨k1,n,λx c y r=>k3 x c y (.tail _ r)⟩
 have o:∀(l:List Ev),Srt l->qv (l.filter (yf s w))=l.filter (yf s w):=λl p=>by rw[wo,Qc p]
 unfold qA
 rw[if_pos i,if_pos i,jVa,jVa,o _ k,o _ d,qu,qu,List.filter_cons]
 cases j:yf s w e
 ·exact⟨rfl,rfl⟩
 ·simp only[if_true]
  have f:∀x∈A.filter (yf s w)++e::B.filter (yf s w),x∈A++e::B:=λx c=>by
   rcases zK.1 c with c|c
   ·exact List.mem_append_left _ (zT.1 c).1
   ·rcases zx.1 c with rfl|c
    ·exact List.mem_append_right _ (.head _)
    ·exact List.mem_append_right _ (.tail _ (zT.1 c).1)
  have m:(A.filter (yf s w)++e::B.filter (yf s w)).Pairwise λa b=>a.at_<=b.at_:=by
   have h:=Xva d
   have u:(A.filter (yf s w)++e::B.filter (yf s w))=(A++e::B).filter (yf s w):=by rw[qu,List.filter_cons,j,if_pos rfl]
   rw[u]
   exact h.filter _
  have:=VTa (q:=q) i m (λx c=>(wO (yC (g x (f x c)))).2.2.2.1) λx c=>t x (f x c)
  exact⟨this.seg,this.flg⟩
theorem QLa{p:Ev->Bool}(a:p e=false):(A++e::B).find? p=(A++B).find? p:=by
 rw[List.find?_append,List.find?_append,List.find?_cons,a]
theorem j7a{l:List Ev}(d:(l.map (·.id)).Nodup){x:Ev}(b:x∈l):l.find? (λe=>e.id==x.id)=some x:=by
 cases a:l.find? (λe=>e.id==x.id) with
 | none=>
   have:=List.find?_eq_none.1 a x b
   simp at this
 | some y=>
   have f:=List.mem_of_find?_eq_some a
   have c:=List.find?_some a
   simp only[beq_iff_eq] at c
   rw[Kfa d f b c]
theorem j8a(s:Setup)(w:Int):Qn s w=vO s w:=rfl
theorem k0a{own:List Ev}(a:Srt own)(b:∀x∈own,vO s w x=false):XQ s w own=own:=by
 unfold XQ
 rw[Qc a,j8a]
 exact Jd λx c=>by rw[b x c];rfl
theorem Koa(r:z6 s=true)(b:Srt (A++e::B))(j:∀x∈A++e::B,vO s w x=false)(v:((A++e::B).map (·.id)).Nodup)(t:Out s e.at_ wk):
  vA s (A++B) w wk=vA s (A++e::B) w wk/\vt s (qA s (A++B) w).1 wk=vt s (qA s (A++e::B) w).1 wk/\
   jE (A++B) (qA s (A++B) w).2 wk=jE (A++e::B) (qA s (A++e::B) w).2 wk:=by
 obtain⟨⟨Z,Y⟩,X,c2⟩:=jU r
 obtain⟨k1,k2,k3⟩:=xn.1 b
 have E:Srt (A++B):=xn.2 ⟨k1,k2.2,λx a y C=>k3 x a y (.tail _ C)⟩
 have c:∀x∈A++B,x∈A++e::B:=λx a=>by
  rcases zK.1 a with a|a
  ·exact List.mem_append_left _ a
  ·exact List.mem_append_right _ (.tail _ a)
 have H:∀x∈A++e::B,vK s x=true:=λx a=>by
  have:=j x a
  unfold vO at this
  rw[zY] at this
  simpa using this.2
 have G:∀x∈A++B,x.id≠e.id:=λx a L=>by
  have d:((e::(A++B)).map (·.id)).Nodup:=(List.Perm.nodup_iff (List.Perm.map _ List.perm_middle)).1 v
  rw[List.map_cons,List.nodup_cons] at d
  exact d.1 (zr.2 ⟨x,a,L⟩)
 have F:((A++B).map (·.id)).Nodup:=by
  have d:((e::(A++B)).map (·.id)).Nodup:=(List.Perm.nodup_iff (List.Perm.map _ List.perm_middle)).1 v
  rw[List.map_cons,List.nodup_cons] at d
  exact d.2
 obtain⟨q,u⟩:∃q:Int->Bool,q=λi=>(A++e::B).any λx=>x.id==i && (decide (e.at_ - s.cap<=x.at_) && decide (x.at_<=e.at_+s.cap)):=⟨_,rfl⟩
 have K:∀x∈A++e::B,e.at_ - s.cap<=x.at_->x.at_<=e.at_+s.cap->q x.id=true:=λx a N O=>by
  rw[u]
  exact List.any_eq_true.2 ⟨x,a,by simp[N,O]⟩
 obtain⟨I,J⟩:=j6a (w:=w) r b q K H
 obtain⟨S,P⟩:=yW (s:=s) (l:=A++B) (w:=w) r
 obtain⟨V,W⟩:=yW (s:=s) (l:=A++e::B) (w:=w) r
 have o:∀x∈A++B,vO s w x=false:=λx a=>j x (c x a)
 refine⟨?_,wOa (Kna t I),?_⟩
 ·unfold vA
  rw[if_pos r,if_pos r,k0a E o,k0a b j]
  refine QKa (by rw[kZa t S,kZa t V,I]) (λg T=>?_) ?_
  ·obtain⟨x,⟨a,_,_⟩,hid,_⟩:=P g (zT.1 T).1
   unfold vd
   rw[QLa]
   have:=G x a
   simp only[Zc]
   rw[show(e.id==g.id)=false by rw[beq_eq_false_iff_ne];omega]
   rfl
  ·unfold kx
   rw[qu,qu,List.filter_cons]
   have:wq wk e=false:=by
    have:=t e.at_ (by omega) (by omega)
    simp[wq,this]
   rw[this]
   rfl
 ·have h:∀x∈A++B,∀f:Flg,f.id=x.id->QM (A++B) f=xW x.at_/\QM (A++e::B) f=xW x.at_:=λx a f k=>by
   unfold QM
   rw[k,j7a F a,j7a v (c x a)]
   exact⟨rfl,rfl⟩
  have z:∀f:Flg,q f.id=true->∃x∈A++e::B,x.id=f.id/\xW x.at_≠wk:=λf k=>by
   rw[u] at k
   obtain⟨x,a,D⟩:=List.any_eq_true.1 k
   simp only[zq,beq_iff_eq,decide_eq_true_eq] at D
   exact⟨x,a,D.1,t x.at_ (by omega) (by omega)⟩
  have M:jE (A++B) (qA s (A++B) w).2 wk=jE (A++B) (yD q (qA s (A++B) w).2) wk:=by
   unfold jE yD
   rw[List.filter_filter]
   refine List.filter_congr λf k=>?_
   cases n:q f.id
   ·simp
   ·obtain⟨x,a,hid⟩:=XE f k
    obtain⟨y,C,p,m⟩:=z f n
    have:y=x:=Kfa v C (c x a) (by rw[p,hid])
    subst this
    rw[(h y a f hid.symm).1]
    simp[m]
  have R:jE (A++e::B) (qA s (A++e::B) w).2 wk=jE (A++e::B) (yD q (qA s (A++e::B) w).2) wk:=by
   unfold jE yD
   rw[List.filter_filter]
   refine List.filter_congr λf k=>?_
   cases n:q f.id
   ·simp
   ·obtain⟨y,C,p,m⟩:=z f n
    have:QM (A++e::B) f=xW y.at_:=by
     unfold QM
     rw[<-p,j7a v C]
     rfl
    rw[this]
    simp[m]
  rw[M,R, <-J]
  unfold jE
  refine List.filter_congr λf k=>?_
  obtain⟨x,a,hid⟩:=XE f (zT.1 k).1
  obtain⟨Q,U⟩:=h x a f hid.symm
  rw[Q,U]
end
theorem q9a{s:Setup}{l:List Ev}{e:Ev}{w wk:Int}(q:((e::l).map (·.id)).Nodup)(h:e.worker=w->vK s e=true->z6 s=true->Out s e.at_ wk):qm s (e::l) w wk=qm s l w wk:=by
 unfold qm
 by_cases g:kn s w wk=0
 ·rw[if_neg (by omega),if_neg (by omega)]
  have o:z6 s=true:=by
   unfold kn at g
   cases D:z6 s
   ·simp[D] at g
   ·rfl
  have u:((w.toNat:Nat):Int)=w:=by
   unfold kn at g
   simp only[o,Bool.not_true,Bool.false_eq_true,if_false] at g
   split at g
   ·omega
   ·omega
  have t:=ko l
  have i:evR s w (e::l)=if !vO s w e then vH e (evR s w l) else evR s w l:=by
   unfold evR
   rw[show qv (e::l)=vH e (qv l) from rfl,J4 e t]
  cases a:vO s w e
  ·rw[a] at i
   simp only[Bool.not_false,if_true] at i
   obtain⟨A,B,y,n⟩:=q8a e (evR s w l)
   have v:Srt (evR s w l):=by
    have:evR s w l=qv (l.filter λe=> !vO s w e):=by rw[wo];rfl
    rw[this];exact ko _
   have j:=YQ e v
   rw[n] at j
   have c:∀x∈evR s w l,x∈l/\vO s w x=false:=λx b=>by
    obtain⟨z,H⟩:=zT.1 b
    exact⟨Xz.1 z,by simpa using H⟩
   have k:∀x∈A++e::B,vO s w x=false:=λx b=>by
    rw[<-n] at b
    rcases K3.1 b with rfl|b
    ·exact a
    ·exact(c x b).2
   have d:(A++e::B).Perm (e::evR s w l):=by rw[<-n];exact Y6 e _
   have f:((e::evR s w l).map (·.id)).Nodup:=by
    rw[List.map_cons,List.nodup_cons] at q⊢
    refine⟨λG=>?_,?_⟩
    ·obtain⟨x,b,r⟩:=zr.1 G
     exact q.1 (zr.2 ⟨x,(c x b).1,r⟩)
    ·have F:((qv l).map (·.id)).Nodup:=(List.Perm.nodup_iff (List.Perm.map _ (xL l))).2 q.2
     exact List.Sublist.nodup (List.Sublist.map _ List.filter_sublist) F
   have p:((A++e::B).map (·.id)).Nodup:=(List.Perm.nodup_iff (List.Perm.map _ d)).2 f
   have m:e.worker=w/\vK s e=true:=by
    unfold vO at a
    rw[zY] at a
    exact⟨by simpa using a.1,by simpa using a.2⟩
   obtain⟨C,E,z3⟩:=Koa (w:=w) (wk:=wk) o j k p (h m.1 m.2 o)
   rw[i,n,y]
   refine Prod.ext ?_ (by simpa using z3.symm)
   unfold QEa
   simp only[u]
   rw[C,E]
  ·rw[a] at i
   simp only[Bool.not_true,Bool.false_eq_true,if_false] at i
   rw[i]
 ·rw[if_pos g,if_pos g]
theorem Wb{s:Setup}{l l':List Ev}{w wk:Int}(b:l.Perm l')(a:(l.map (·.id)).Nodup):qm s l w wk=qm s l' w wk:=by
 unfold qm evR
 rw[wia b a]
set_option maxRecDepth 100000
theorem Wya{P:Program}{f:FuncId}{x v:Value}(b:Ys P f=true)(c:∀w,Calls P f #[x] w λe w'=>e= .returned v/\w=w'):xA P f [.v x] (.v v):=λh=>by
 refine⟨b,⟨_,_,⟨rfl,rfl⟩,.refl⟩,λφ k B w g vs j hB a=>?_⟩
 obtain⟨u,r,rfl,i,d⟩:=a
 have i:u=x:=i
 have d:r=[]:=d
 subst i d
 refine(c w).mono ?_
 rintro e w' ⟨rfl,rfl⟩
 exact⟨_,_,_,_,rfl,⟨rfl,rfl⟩,.refl,Good.refl j hB,rfl⟩
def xu(n:Int):Int:=wr ((wr (Go.Lib.bitLen (IntKind.wrap .u64 n).toNat+7)).tdiv 8)
theorem jQb(n:Int):xA Tryz.prog 74 [i64 n] (i64 (xu n)):=λh=>by
 have a:0<=IntKind.wrap .u64 n/\IntKind.wrap .u64 n<=18446744073709551615:=by
  rw[IntKind.wrap_u64];omega
 refine zi Tryz.f74 [.tmp 2] 8 rfl rfl rfl rfl rfl rfl (by decide) (⟨_,_,⟨rfl,rfl⟩,.refl⟩) λB=>?_
 simp only[go_sem]
 refine zg (Wya (by kernel_rfl) (λw=>QMa (IntKind.wrap .u64 n) w a.1 a.2) _) ?_
 rintro _ b ⟨rfl,rfl⟩
 simp only[go_sem]
 refine zn ?_<;>(simp only[go_sem,xu]<;>try rfl)
theorem X4{P:Program}{f:FuncId}{ar:List AV}{h:List Ob}{u:AV}{e:Nat}{rows:List (List AV)}(n:0<e)(j:u.lt h.length=true)(z:qM h.length rows=true)(c:ACalls P f ar h λr h'=>∃L x,h'=h++L/\NoRes L/\r= .tup [x,u]/\New h e x rows L):ACalls P f ar h λr h'=>r= .tup [.sl e rows,u]/\h'=h:=by
 refine⟨c.1,⟨_,_,⟨rfl,rfl⟩,.refl⟩,λφ l B w g vs m hB b=>?_⟩
 refine(c.2.2 φ l B w g vs m hB b).mono λD w' ⟨v,r,h',g',p,⟨L,x,t,_,y,n1⟩,_,i,k⟩=>?_
 subst t y
 rw[jW l] at i k
 have a:(fill φ h).length=h.length:=jo
 obtain⟨us,rfl,s,E,q,a1,o,C,A,a2,d⟩:=k
 have d:C=[]:=d
 subst d A
 refine⟨_,_,h,g',p,⟨rfl,rfl⟩,.refl,i.drop rfl (by have:=m.ids;exact this),us,rfl,?_⟩
 rw[q]
 exact⟨s,_,rfl,Jg i.ok n a1 (n1 _ a) (λid hid=>by rw[a];exact n1.root id hid) (by rw[a];exact z),o,[],rfl,AR.less (kU w' g' (fill φ h) L) _ _ (by rw[jo];exact j) a2,rfl⟩
def xv(n:Int):List AV:=[.v (.int .u8 n)]
theorem Qd{n:Nat}:∀l:List Int,qM n (l.map xv)=true
 | []=>rfl
 | s::l=>by
   rw[List.map_cons,qM,Qd l];rfl
theorem Kpa(l:List Int):((l.map xv).all λr=>r.length==1 && r.all AV.one)=true:=by
 rw[qb]
 intro r a
 obtain⟨s,_,rfl⟩:=zr.1 a
 rfl
def Xh(n:Int)(j:Nat):Int:=IntKind.wrap .u8 (n.fdiv (2 ^ min (8*j) 64))
def yq(n:Int):Nat->List Int
 | 0=>[]
 | k+1=>Xh n k::yq n k
theorem Zx(n:Int):∀k,(yq n k).length=k
 | 0=>rfl
 | k+1=>by rw[yq,List.length_cons,Zx n k]
theorem y1a(n:Int):0<=xu n/\xu n<=8:=by
 have a:0<=IntKind.wrap .u64 n/\IntKind.wrap .u64 n<=18446744073709551615:=by
  rw[IntKind.wrap_u64];omega
 have:=Go.Lib.bitLen_le (IntKind.wrap .u64 n).toNat 64 (by omega) (by omega)
 unfold xu
 rw[qp (n:=(Go.Lib.bitLen (IntKind.wrap .u64 n).toNat:Int)+7) (by unfold Fit;omega),Int.tdiv_eq_ediv_of_nonneg (by omega),qp (by unfold Fit;omega)]
 omega
def yj(n:Int):List Int:=IntKind.wrap .u8 (xu n)::yq n (xu n).toNat
theorem zJa(n:Int):(yj n).length<=9:=by
 have:=y1a n
 rw[yj,List.length_cons,Zx];omega
def wPa(l:List Int):Bool:=l.any λn=>decide (n<0)
def yZ(b ns:List Int):List Int × Int:=if wPa ns then([],50) else(b++ns.flatMap yj,0)
theorem zLb(h:List Ob)(x y:AV)(b ns:List Int)(hx:SlOf h x 1 (b.map xv))(hy:SlOf h y 1 (ns.map qn))(hb:b.length<1073741824)(hn:ns.length<1048576):
  ACalls Tryz.prog 24 [x,y] h λr h'=>∃L z,h'=h++L/\NoRes L/\r= .tup [z,i64 (yZ b ns).2]/\New h 1 z ((yZ b ns).1.map xv) L:=by
 have hex:∃r h',(∃L z,h'=h++L/\NoRes L/\r=AV.tup [z,i64 (yZ b ns).2]/\New h 1 z ((yZ b ns).1.map xv) L)/\ResK h h':=
  ⟨_,_,⟨[],.sl 1 _,rfl,jh,rfl,λ_ _=>⟨rfl,λ_=>rfl⟩⟩,resK_app⟩
 refine jN (N:=41) (rs:=[.tmp 4,.tmp 5]) (fn:=Tryz.f24) rfl rfl rfl rfl (qo rfl) rfl (hex) λB=>?_
 refine qG (by decide) ?_
 simp only[go_sem]
 refine jS (xr (λT' h'=>Pre h h'/\OwnS h h' 5 1 (T' 6) (b.map xv)/\T' 1=y) (by decide) ?_ ?_)
 ·simp only[go_sem]
  refine zg (wLa _ x _ hx (by rw[zb];omega) (Kpa b)) ?_
  rintro r h1 hr
  rcases hr with⟨q1,rfl,rfl⟩|⟨rfl,rfl⟩
  ·simp only[go_sem]
   exact⟨.refl,.inl ⟨rfl,q1⟩⟩
  ·simp only[go_sem]
   exact⟨⟨_,rfl,zD rfl⟩,.inr ⟨h.length,1,zo _,rfl,by rw[zM rfl];rfl⟩⟩
 ·rintro T h' ⟨c,I,t1⟩
  have C:=(c.sl hy).rows
  refine qD _ (by decide) ?_
  simp only[go_sem,t1,C,zb]
  refine zI (by decide) (λm T h'=>∃i:Nat,i<=ns.length/\wPa (ns.take i)=false/\Pre h h'/\OwnS h h' 5 1 (T 6) ((b++(ns.take i).flatMap yj).map xv)/\T 12=y/\T 13=i64 ns.length/\T 14=i64 i/\m=ns.length - i) ns.length
   ⟨0,by omega,rfl,c,by simp only[go_sem];simpa using I,by simp only[go_sem,t1],by(simp only[go_sem]<;>rfl),by(simp only[go_sem]<;>rfl),rfl⟩ ?_
  clear c I t1 C
  rintro m T h' ⟨i,hi,s,c,I,o,g,f,rfl⟩
  simp only[go_sem,g,f]
  refine ways (λe=>?_) (λe=>?_)
  ·have F:=dlt e
   have J:=XH F
   have β:=(c.sl hy).at (i:=i) (by rw[zb];exact F)
   have C:=(c.sl hy).rows
   have α:(i:Int)<ns.length:=by omega
   have A:ns.take (i+1)=ns.take i++[ns[i]]:=(zE F).symm
   have H:=zy F
   obtain⟨z,hz⟩:∃z,z=ns[i]:=⟨_,rfl⟩
   rw[<-hz] at J A H
   simp only[go_sem,o,f,β,C,J,α,zb,Int.toNat_natCast,zh]
   refine ways (λe2=>?_) (λe2=>?_)
   ·have X:wPa ns=true:=List.any_eq_true.2 ⟨z,H,e2⟩
    have hp:yZ b ns=([],50):=by unfold yZ;rw[X];rfl
    rw[hp]
    simp only[go_sem]
    obtain⟨L,Z,hN⟩:=c
    exact⟨_,rfl,.inl ⟨L,_,Z,hN,rfl,λh2 _=>⟨rfl,λh=>absurd rfl h⟩⟩⟩
   ·have Y:decide (z<0)=false:=e2
    simp only[go_sem]
    refine zg (jQb z _) ?_
    rintro _ h2 ⟨rfl,e3⟩
    rw[e3]
    have hk:=y1a z
    obtain⟨p,E⟩:∃p,p=b++(ns.take i).flatMap yj:=⟨_,rfl⟩
    rw[<-E] at I
    have hPl:p.length<=1073741824+9*1048576:=by
     have:∀l:List Int,(l.flatMap yj).length<=9*l.length:=λl=>by
      induction l with
      | nil=>simp
      | cons n l ih=>
        have:=zJa n
        rw[List.flatMap_cons,zf,List.length_cons];omega
     have:=this (ns.take i)
     rw[zJ] at this
     rw[E,zf];omega
    have W:(p.length+1)*2<=140737488355328:=by omega
    rcases I with⟨t6,q⟩|⟨id,st,u1,t6,u3⟩
    ·have hP:p=[]:=by simpa using q
     simp only[go_sem,t6]
     have a:Pre h (h'++[.row 5 1 [xv (IntKind.wrap .u8 (xu z))] 0,.row 5 1 [xv (IntKind.wrap .u8 (xu z))] 0]):=c.app (zl rfl (zD rfl))
     have d:OwnS h (h'++[.row 5 1 [xv (IntKind.wrap .u8 (xu z))] 0,.row 5 1 [xv (IntKind.wrap .u8 (xu z))] 0]) 5 1 (.tl (h'.length+1) 0) ((p++[IntKind.wrap .u8 (xu z)]).map xv):= .inr ⟨_,0,by have:=c.len;omega,rfl,by rw[zG (k:=1) rfl,hP];rfl⟩
     have θ:((xu z).toNat:Int)=xu z:=by omega
     obtain⟨k,S⟩:∃k,k=(xu z).toNat:=⟨_,rfl⟩
     have κ:k<=8:=by omega
     refine zI (by decide) (λm T G=>∃j:Nat,j<=k/\Pre h G/\(∃D,yq z k=D++yq z j/\OwnS h G 5 1 (T 6) ((p++[IntKind.wrap .u8 (xu z)]++D).map xv))/\T 8=i64 z/\T 9=i64 j/\T 12=y/\T 13=i64 ns.length/\T 14=i64 i/\m=j) k
      ⟨k,zo _,a,⟨[],rfl,by simp only[go_sem];exact d⟩,by simp only[go_sem],by rw[show((k:Nat):Int)=xu z by omega];simp only[go_sem],by simp only[go_sem,o],by simp only[go_sem,g],by simp only[go_sem,f],rfl⟩ ?_
     clear a d o g f
     rintro m T G ⟨j,hj,a,⟨D,R,d⟩,t8,t9,o,g,f,rfl⟩
     simp only[go_sem,t9]
     refine ways (λP=>?_) (λP=>?_)
     ·have ρ:0<m:=by have:=of_decide_eq_true P;omega
      obtain⟨j,rfl⟩:∃j,m=j+1:=⟨m - 1,by omega⟩
      have w1:IntKind.wrap .i64 (((j+1:Nat):Int) - 1)=(j:Int):=(qp (n:=((j+1:Nat):Int) - 1) (by unfold Fit;omega)).trans (by omega)
      have w2:IntKind.wrap .i64 (8*(j:Int))=8*(j:Int):=qp (n:=8*(j:Int)) (by unfold Fit;omega)
      have w3:0<=8*(j:Int):=by omega
      have w4:(8*(j:Int)).toNat=8*j:=by omega
      have U:yq z k=(D++[Xh z j])++yq z j:=by rw[R,yq];simp
      have Q:=congrArg List.length R
      rw[zf,Zx,Zx] at Q
      have V:IntKind.wrap .u8 (z.fdiv (2 ^ min (8*j) 64))=Xh z j:=rfl
      have O:(p.length+(D.length+1)+1)*2<=140737488355328:=by omega
      rcases d with⟨_,q⟩|⟨w,u,v1,t6,v3⟩
      ·simp at q
      ·have t:∀M,(G++M)[w]? =some (.row 5 1 ((p++[IntKind.wrap .u8 (xu z)]++D).map xv) u):=λM=>ze v3
       simp only[go_sem,t6,t8,t9,w1,w2,w3,w4,V,t,O,zb]
       refine⟨j,by omega,j,by omega,(a.app (zD rfl)).set v1 rfl,⟨D++[Xh z j],U,.inr ⟨w,u+1,v1,rfl,?_⟩⟩,rfl,o,g,f,rfl⟩
       have e6:(p++IntKind.wrap .u8 (xu z)::(D++[Xh z j])).map xv=(p++IntKind.wrap .u8 (xu z)::D).map xv++[xv (Xh z j)]:=by simp
       rw[e6]
       exact zm (t _)
     ·have K:m=0:=by have:=of_decide_eq_false P;omega
      subst K
      have v:p++[IntKind.wrap .u8 (xu z)]++D=b++(ns.take (i+1)).flatMap yj:=by
       rw[A,List.flatMap_append, <-zt, <-E]
       have:D=yq z k:=by rw[R];simp[yq]
       rw[this,S]
       simp[yj]
      rw[v] at d
      simp only[go_sem,f]
      exact⟨ns.length - (i+1),by omega,i+1,by omega,by rw[A];unfold wPa at s ⊢;rw[List.any_append,s];simp[Y],a,d,o,g,qf (by omega) rfl,rfl⟩
    ·have hg:∀M,(h'++M)[id]? =some (.row 5 1 (p.map xv) st):=λM=>ze u3
     simp only[go_sem,t6,hg,W,zb]
     have a:Pre h ((h'++[Ob.row 5 1 [xv (IntKind.wrap .u8 (xu z))] 0]).set id (.row 5 1 (p.map xv++[xv (IntKind.wrap .u8 (xu z))]) (st+1))):=(c.app (zD rfl)).set u1 rfl
     have d:OwnS h ((h'++[Ob.row 5 1 [xv (IntKind.wrap .u8 (xu z))] 0]).set id (.row 5 1 (p.map xv++[xv (IntKind.wrap .u8 (xu z))]) (st+1))) 5 1 (.tl id (st+1)) ((p++[IntKind.wrap .u8 (xu z)]).map xv):= .inr ⟨id,st+1,u1,rfl,by rw[zw];exact zm (hg _)⟩
     have θ:((xu z).toNat:Int)=xu z:=by omega
     obtain⟨k,S⟩:∃k,k=(xu z).toNat:=⟨_,rfl⟩
     have κ:k<=8:=by omega
     refine zI (by decide) (λm T G=>∃j:Nat,j<=k/\Pre h G/\(∃D,yq z k=D++yq z j/\OwnS h G 5 1 (T 6) ((p++[IntKind.wrap .u8 (xu z)]++D).map xv))/\T 8=i64 z/\T 9=i64 j/\T 12=y/\T 13=i64 ns.length/\T 14=i64 i/\m=j) k
      ⟨k,zo _,a,⟨[],rfl,by simp only[go_sem];exact d⟩,by simp only[go_sem],by rw[show((k:Nat):Int)=xu z by omega];simp only[go_sem],by simp only[go_sem,o],by simp only[go_sem,g],by simp only[go_sem,f],rfl⟩ ?_
     clear a d o g f
     rintro m T G ⟨j,hj,a,⟨D,R,d⟩,t8,t9,o,g,f,rfl⟩
     simp only[go_sem,t9]
     refine ways (λP=>?_) (λP=>?_)
     ·have ρ:0<m:=by have:=of_decide_eq_true P;omega
      obtain⟨j,rfl⟩:∃j,m=j+1:=⟨m - 1,by omega⟩
      have w1:IntKind.wrap .i64 (((j+1:Nat):Int) - 1)=(j:Int):=(qp (n:=((j+1:Nat):Int) - 1) (by unfold Fit;omega)).trans (by omega)
      have w2:IntKind.wrap .i64 (8*(j:Int))=8*(j:Int):=qp (n:=8*(j:Int)) (by unfold Fit;omega)
      have w3:0<=8*(j:Int):=by omega
      have w4:(8*(j:Int)).toNat=8*j:=by omega
      have U:yq z k=(D++[Xh z j])++yq z j:=by rw[R,yq];simp
      have Q:=congrArg List.length R
      rw[zf,Zx,Zx] at Q
      have V:IntKind.wrap .u8 (z.fdiv (2 ^ min (8*j) 64))=Xh z j:=rfl
      have O:(p.length+(D.length+1)+1)*2<=140737488355328:=by omega
      rcases d with⟨_,q⟩|⟨w,u,v1,t6,v3⟩
      ·simp at q
      ·have t:∀M,(G++M)[w]? =some (.row 5 1 ((p++[IntKind.wrap .u8 (xu z)]++D).map xv) u):=λM=>ze v3
       simp only[go_sem,t6,t8,t9,w1,w2,w3,w4,V,t,O,zb]
       refine⟨j,by omega,j,by omega,(a.app (zD rfl)).set v1 rfl,⟨D++[Xh z j],U,.inr ⟨w,u+1,v1,rfl,?_⟩⟩,rfl,o,g,f,rfl⟩
       have e6:(p++IntKind.wrap .u8 (xu z)::(D++[Xh z j])).map xv=(p++IntKind.wrap .u8 (xu z)::D).map xv++[xv (Xh z j)]:=by simp
       rw[e6]
       exact zm (t _)
     ·have K:m=0:=by have:=of_decide_eq_false P;omega
      subst K
      have v:p++[IntKind.wrap .u8 (xu z)]++D=b++(ns.take (i+1)).flatMap yj:=by
       rw[A,List.flatMap_append, <-zt, <-E]
       have:D=yq z k:=by rw[R];simp[yq]
       rw[this,S]
       simp[yj]
      rw[v] at d
      simp only[go_sem,f]
      exact⟨ns.length - (i+1),by omega,i+1,by omega,by rw[A];unfold wPa at s ⊢;rw[List.any_append,s];simp[Y],a,d,o,g,qf (by omega) rfl,rfl⟩
  ·have ψ:=j9 e
   have ζ:i=ns.length:=by omega
   subst ζ
   rw[zP] at s I
   have hp:yZ b ns=(b++ns.flatMap yj,0):=by unfold yZ;rw[s];rfl
   rw[hp]
   simp only[go_sem]
   obtain⟨L,Z,hN⟩:=c
   rw[Z] at I
   exact⟨_,rfl,.inl ⟨L,_,Z,hN,rfl,I.new (zo _)⟩⟩
theorem jRb(h:List Ob)(x y:AV)(b ns:List Int)(a:SlOf h x 1 (b.map xv))(e:SlOf h y 1 (ns.map qn))(c:b.length<1073741824)(d:ns.length<1048576):
  ACalls Tryz.prog 24 [x,y] h λr h'=>r= .tup [.sl 1 ((yZ b ns).1.map xv),i64 (yZ b ns).2]/\h'=h:=
 X4 (by decide) rfl (Qd _) (zLb h x y b ns a e c d)
def Sb(z:AV)(b:List Int):Prop:=z= .sl 1 (b.map xv)∨z= .v (.slice none 0 0)/\b=[]
theorem Sb.sl{h:List Ob}{z:AV}{b:List Int}(k:Sb z b):SlOf h z 1 (b.map xv):=by
 rcases k with rfl|⟨rfl,rfl⟩
 ·exact⟨rfl,λ_=>rfl⟩
 ·exact⟨rfl,λh=>absurd rfl h⟩
theorem Sb.lt{n:Nat}{z:AV}{b:List Int}(k:Sb z b):z.lt n=true:=by
 rcases k with rfl|⟨rfl,rfl⟩
 ·exact Qd _
 ·rfl
def Qe(q:List Int × Bool)(n:Int):List Int × Bool:=(if q.2 && (yZ q.1 [n]).2==0 then(yZ q.1 [n]).1 else q.1,q.2 && (yZ q.1 [n]).2==0)
def kL(q:List Int × Bool)(ns:List Int):List Int × Bool:=ns.foldl Qe q
theorem k1a(q:List Int × Bool)(n:Int):(Qe q n).1.length<=q.1.length+9:=by
 have:=zJa n
 have a:(yZ q.1 [n]).1.length<=q.1.length+9:=by
  unfold yZ
  split
  ·simp
  ·simp only[zf,List.flatMap_cons,List.flatMap_nil,zH];omega
 unfold Qe
 simp only
 split
 ·exact a
 ·omega
theorem Xi:∀(ns:List Int) (q:List Int × Bool),(kL q ns).1.length<=q.1.length+9*ns.length
 | [],q=>by simp[kL]
 | n::ns,q=>by
   have b:=k1a q n
   have a:=Xi ns (Qe q n)
   rw[kL,List.foldl_cons,List.length_cons]
   unfold kL at a
   omega
theorem QNa{q:List Int × Bool}{ns:List Int}{i:Nat}(h:i<ns.length):kL q (ns.take (i+1))=Qe (kL q (ns.take i)) ns[i]:=by
 unfold kL
 rw[show ns.take (i+1)=ns.take i++[ns[i]] from(zE h).symm,qK];rfl
def jSb(h:List Ob)(i:Nat)(p:AV)(n:Int):Prop:=∃id off ty cs,p= .ptr id off/\id≠i/\h[id]? =some (.box ty cs)/\off<cs.length/\nth cs off=i64 n
theorem kjb(h:List Ob)(i:Nat)(z:AV)(b:List Int)(ok:Bool)(x:AV)(d:List (AV × Int))(hi:h[i]? =some (.box 107 [z,bl ok]))(hz:Sb z b)(hx:SlOf h x 1 (d.map λp=>[p.1]))(hp:∀p∈d,jSb h i p.1 p.2)(hb:b.length<536870912)(hn:d.length<1048576):
  ACalls Tryz.prog 45 [.ptr i 0,x] h λr h'=>r= .tup []/\∃s,Sb s (kL (b,ok) (d.map (·.2))).1/\h'=h.set i (.box 107 [s,bl (kL (b,ok) (d.map (·.2))).2]):=by
 have hex:∃r h',(r=AV.tup []/\∃s,Sb s (kL (b,ok) (d.map (·.2))).1/\h'=h.set i (.box 107 [s,bl (kL (b,ok) (d.map (·.2))).2]))/\ResK h h':=
  ⟨_,_,⟨rfl,_,.inl rfl,rfl⟩,qi hi rfl⟩
 refine zi Tryz.f45 [] 46 rfl rfl rfl rfl rfl rfl (by decide) (hex) λB=>?_
 simp only[go_sem,hx.rows,zb]
 obtain⟨ns,v⟩:∃ns,ns=d.map (·.2):=⟨_,rfl⟩
 have Z:ns.length=d.length:=by rw[v];simp
 have O:=λj=>Xi (ns.take j) (b,ok)
 rw[<-v]
 have F:=(zd.1 hi).1
 refine zI (by decide) (λm T h'=>∃(j:Nat) (s:AV) (L:List Ob),j<=d.length/\Sb s (kL (b,ok) (ns.take j)).1/\h'=h.set i (.box 107 [s,bl (kL (b,ok) (ns.take j)).2])++L/\NoRes L/\T 0= .ptr i 0/\T 8=x/\T 9=i64 d.length/\T 10=i64 j/\m=d.length - j) d.length
  ⟨0,z,[],by omega,hz,by rw[zH];exact(qS hi).symm,jh,by simp only[go_sem],by simp only[go_sem],by(simp only[go_sem]<;>rfl),by(simp only[go_sem]<;>rfl),rfl⟩ ?_
 rintro m T h' ⟨j,y,L,hj,f,rfl,Y,t0,t8,t9,t10,rfl⟩
 simp only[go_sem,t9,t10]
 refine ways (λe=>?_) (λe=>?_)
 ·have A:=dlt e
  have u:(d.map λp=>[p.1])[j]? =some [d[j].1]:=by rw[zz,zj A];rfl
  have N:(j:Int)<d.length:=by omega
  have a:=QNa (q:=(b,ok)) (ns:=ns) (i:=j) (by omega)
  have W:ns[j]'(by omega)=d[j].2:=by simp[v]
  obtain⟨id,off,ty,cs,p1,p2,p3,p4,p5⟩:=hp d[j] (zy A)
  have J:=O j
  rw[W] at a
  obtain⟨n,P⟩:∃n,n=d[j].2:=⟨_,rfl⟩
  obtain⟨pt,γ⟩:∃pt,pt=d[j].1:=⟨_,rfl⟩
  rw[<-P] at a p5
  rw[<-γ] at u p1
  subst p1
  obtain⟨Q,hQ⟩:∃Q,Q=kL (b,ok) (ns.take j):=⟨_,rfl⟩
  rw[<-hQ] at a f J⊢
  have ε:Q.1.length<1073741824:=by
   simp only[zJ] at J
   omega
  obtain⟨H,C⟩:∃H,H=h.set i (.box 107 [y,bl Q.2])++L:=⟨_,rfl⟩
  have D:H[i]? =some (.box 107 [y,bl Q.2]):=by rw[C];exact ze (zp F)
  have V:H[id]? =some (.box ty cs):=by rw[C];exact ze (by rw[zc (Ne.symm p2)];exact p3)
  have I:SlOf H x 1 (d.map λp=>[p.1]):=by rw[C];exact(hx.keep (.setB hi)).app _
  have U:∀o,H.set i o=h.set i o++L:=λo=>by rw[C,qr _ _ (by rw[zN];exact F),qd]
  rw[<-C]
  clear C
  have S:=I.rows
  have X:=I.at (i:=j) (by rw[zb];exact A)
  have c:∀M,(H++M)[i]? =some (.box 107 [y,bl Q.2]):=λM=>ze D
  have t:∀M,(H++M)[id]? =some (.box ty cs):=λM=>ze V
  have k:=(f.sl (h:=h)).one
  have g:=(f.sl (h:=h)).cells
  simp only[go_sem,t0,t8,t10,S,X,u,N,zb,Int.toNat_natCast,zh]
  refine zL rfl [.res] 1 [(0,0,[]),(1,0,[]),(2,0,[]),(4,0,[]),(5,0,[]),(3,0,[]),(6,0,[]),(7,0,[]),(8,0,[]),(9,0,[]),(10,0,[]),(11,0,[]),(12,0,[]),(13,0,[])] rfl (by decide) (by decide) ?_
  simp only[go_sem,t0,c,t,p4,p5,k,g]
  refine zg (jRb _ y _ Q.1 [n] f.sl ⟨by rw[qZ,zM rfl];rfl,λ_=>by rw[jP,zM rfl];rfl⟩ (by omega) (by show 1<1048576;decide)) ?_
  rintro _ h3 ⟨rfl,e3⟩
  rw[e3]
  obtain⟨R,hR⟩:∃R,R=yZ Q.1 [n]:=⟨_,rfl⟩
  rw[<-hR]
  simp only[go_sem,t0,c,t,p4,p5,k,g]
  have G:Qe Q n=(if Q.2 && R.2==0 then R.1 else Q.1,Q.2 && R.2==0):=by rw[hR];rfl
  rw[G] at a
  have w:∀o M,((H++M).set i o)[i]? =some o:=λo M=>zm (c M)
  have l:∀o M,(H++M).set i o=h.set i o++(L++M):=λo M=>by
   rw[qr _ _ (by exact(zd.1 D).1),U,zt]
  cases E:Q.2
  ·rw[E] at a c
   simp only[Bool.false_and,Bool.false_eq_true,if_false] at a
   simp only[go_sem,E,qt,t0,t10,c,w,k,g]
   exact⟨d.length - (j+1),by omega,j+1,y,L++[.row 3 1 [[i64 n]] 0],by omega,by rw[a];exact f,by rw[a];exact l _ _,Y.app (zD rfl),t8,t9,qf (by omega) rfl,rfl⟩
  ·rw[E] at a c
   simp only[Bool.true_and] at a
   cases K:R.2==0
   ·rw[K] at a
    simp only[Bool.false_eq_true,if_false] at a
    simp only[go_sem,E,K,qt,t0,t10,c,w,k,g]
    exact⟨d.length - (j+1),by omega,j+1,y,L++[.row 3 1 [[i64 n]] 0],by omega,by rw[a];exact f,by rw[a];exact l _ _,Y.app (zD rfl),t8,t9,qf (by omega) rfl,rfl⟩
   ·rw[K] at a
    simp only[if_true] at a
    simp only[go_sem,E,K,qt,t0,t10,c,w,k,g,qd]
    exact⟨d.length - (j+1),by omega,j+1,.sl 1 (R.1.map xv),L++[.row 3 1 [[i64 n]] 0],by omega,by rw[a];exact .inl rfl,by rw[a];exact l _ _,Y.app (zD rfl),t8,t9,qf (by omega) rfl,rfl⟩
 ·have κ:=j9 e
  have α:j=d.length:=by omega
  subst α
  rw[<-Z,zP] at f⊢
  simp only[go_sem]
  exact⟨.tup [],rfl,.inr ⟨_,L,rfl,by rw[zN],rfl,KeepLt.set .refl rfl (by simp only[VB,qy,f.lt,AV.lt,Bool.and_self]),rfl,y,f,rfl⟩⟩
structure Cm where
 kind:Int
 fx:Fx
 worker:Int
 week:Int
 last:Int
abbrev qO(s:Setup)(a:SA)(x c:AV)(err:Int)(rows segs bytes:AV)(q:Cm):List AV:=[i64 s.places,a.w,i64 s.pace.1,i64 s.pace.2,a.e,a.c,a.g,i64 s.allow,i64 s.unit,i64 s.cap,i64 s.paidBreak,i64 s.autoAfter,i64 s.autoBreak,
 i64 s.dayReg,i64 s.dayOver,i64 s.weekReg,i64 s.nightFrom,i64 s.nightTo,a.r,i64 s.diff,i64 s.least,i64 s.fault,a.t,x,c,i64 err,rows,segs,bytes,i64 q.kind,i64 q.fx.op,i64 q.fx.ev.id,i64 q.fx.ev.worker,i64 q.fx.ev.at_,i64 q.fx.ev.kind,i64 q.fx.ev.from_,i64 q.fx.ev.to_,i64 q.fx.ev.element,i64 q.fx.ev.units,i64 q.fx.ev.class_,i64 q.fx.ev.gear,i64 q.fx.ev.code,i64 q.worker,i64 q.week,i64 q.last]
def jK(err:Int)(c:Bool)(e:Int):Int:=if err==0 && !c then e else err
section
variable {h:List Ob} {d:Nat} {s:Setup} {a:SA} {x c:AV} {err:Int} {rows segs bytes:AV} {q:Cm}
theorem Xj(g:h[d]? =some (.box 154 (qO s a x c err rows segs bytes q)))(b:Bool)(e:Int):
  ACalls Tryz.prog 162 [.ptr d 0,bl b,i64 e] h λr h'=>r=bl (jK err b e==0)/\h'=h.set d (.box 154 (qO s a x c (jK err b e) rows segs bytes q)):=by
 have j:∀o,(h.set d o)[d]? =some o:=λo=>zm g
 refine zi Tryz.f162 [.tmp 6] 28 rfl rfl rfl rfl rfl rfl (by decide) (⟨_,_,⟨rfl,rfl⟩,qi g rfl⟩) λB=>?_
 simp only[go_sem,g]
 cases f:err==0
 ·have i:jK err b e=err:=by unfold jK;rw[f];rfl
  rw[i]
  simp only[go_sem,f,qt,g]
  exact⟨bl (err==0),by simp only[go_sem,f],.inl ⟨by rw[f],(qS g).symm⟩⟩
 ·cases b
  ·have i:jK err false e=e:=by unfold jK;rw[f];rfl
   rw[i]
   simp only[go_sem,f,qt,g,j]
   exact⟨bl (e==0),by simp only[go_sem],.inl ⟨rfl,rfl⟩⟩
  ·have i:jK err true e=err:=by unfold jK;rw[f];rfl
   rw[i]
   simp only[go_sem,f,qt,g]
   exact⟨bl (err==0),by simp only[go_sem,f],.inl ⟨by rw[f],(qS g).symm⟩⟩
theorem Yc(e:h[d]? =some (.box 154 (qO s a x c err rows segs bytes q)))(l:List Int)(f:SlOf h c 1 (l.map qn))(b:l.length<1048576)(n:Int):
  ACalls Tryz.prog 163 [.ptr d 0,i64 n] h λr h'=>r=bl (l.any (n== ·))/\h'=h:=by
 refine zi Tryz.f163 [.tmp 4] 12 rfl rfl rfl rfl rfl rfl (by decide) (⟨_,_,⟨rfl,rfl⟩,.refl⟩) λB=>?_
 simp only[go_sem,e]
 refine zg (q5a _ c l n f b) ?_
 rintro _ g ⟨rfl,rfl⟩
 simp only[go_sem]
 refine zn ?_<;>(simp only[go_sem]<;>try rfl)
def jf(s:Setup)(q:Cm):Bool:=decide (q.worker≥0) && decide (q.worker<(s.rates.length:Int))
def kz(q:Cm):Bool:=decide (q.week≥0) && decide (q.week<=52)
theorem y2a(e:h[d]? =some (.box 154 (qO s a x c err rows segs bytes q)))(k:SIn h s a):
  ACalls Tryz.prog 164 [.ptr d 0] h λr h'=>r=bl (jf s q)/\h'=h:=by
 have f:=k.r.rows
 refine zi Tryz.f164 [.tmp 2] 24 rfl rfl rfl rfl rfl rfl (by decide) (⟨_,_,⟨rfl,rfl⟩,.refl⟩) λB=>?_
 simp only[go_sem]
 refine zL rfl [] 0 [(0,0,[]),(1,0,[]),(2,0,[]),(3,0,[]),(4,0,[]),(5,0,[]),(6,0,[]),(7,0,[]),(8,0,[]),(9,0,[]),(10,0,[]),(12,0,[]),(13,0,[]),(14,0,[]),(15,0,[]),(16,0,[]),(11,0,[]),(17,0,[]),(18,0,[]),(19,0,[]),(20,0,[]),(21,0,[])] rfl (by decide) (by decide) ?_
 simp only[go_sem,e]
 cases b:decide (q.worker≥0)
 ·simp only[go_sem,b,qt,e]
  refine zn ?_<;>(simp only[go_sem,jf,b,Bool.false_and]<;>try rfl)
 ·simp only[go_sem,b,qt,e,f,zb]
  refine zn ?_<;>(simp only[go_sem,jf,b,Bool.true_and]<;>try rfl)
theorem Kqa(e:h[d]? =some (.box 154 (qO s a x c err rows segs bytes q))):
  ACalls Tryz.prog 165 [.ptr d 0] h λr h'=>r=bl (kz q)/\h'=h:=by
 refine zi Tryz.f165 [.tmp 2] 17 rfl rfl rfl rfl rfl rfl (by decide) (⟨_,_,⟨rfl,rfl⟩,.refl⟩) λB=>?_
 simp only[go_sem,e]
 cases b:decide (q.week≥0)
 ·simp only[go_sem,b,qt,e]
  refine zn ?_<;>(simp only[go_sem,kz,b,Bool.false_and]<;>try rfl)
 ·simp only[go_sem,b,qt,e]
  refine zn ?_<;>(simp only[go_sem,kz,b,Bool.true_and]<;>try rfl)
end
def frA(s:Setup):SA:=⟨.sl 3 (s.ways.map JE),.sl 4 (s.elements.map JF),.sl 2 (s.classes.map jH),.sl 2 (s.gears.map jH),.sl 1 (s.rates.map qn),.sl 2 (s.tiers.map jH)⟩
theorem yI{h:List Ob}(s:Setup):SIn h s (frA s):=⟨⟨rfl,λ_=>rfl⟩,⟨rfl,λ_=>rfl⟩,⟨rfl,λ_=>rfl⟩,⟨rfl,λ_=>rfl⟩,⟨rfl,λ_=>rfl⟩,⟨rfl,λ_=>rfl⟩⟩
theorem Wza(l:List Way):((l.map JE).all λr=>r.length==3 && r.all AV.one)=true:=by
 rw[qb];intro r a;obtain⟨s,_,rfl⟩:=zr.1 a;rfl
theorem WAa(l:List Elt):((l.map JF).all λr=>r.length==4 && r.all AV.one)=true:=by
 rw[qb];intro r a;obtain⟨s,_,rfl⟩:=zr.1 a;rfl
theorem j9a(l:List qx):((l.map jH).all λr=>r.length==2 && r.all AV.one)=true:=by
 rw[qb];intro r a;obtain⟨s,_,rfl⟩:=zr.1 a;rfl
theorem y3a(l:List Int):((l.map qn).all λr=>r.length==1 && r.all AV.one)=true:=by
 rw[qb];intro r a;obtain⟨s,_,rfl⟩:=zr.1 a;rfl
theorem Qp{n:Nat}:∀l:List Way,qM n (l.map JE)=true
 | []=>rfl
 | s::l=>by rw[List.map_cons,qM,Qp l];rfl
theorem Qq{n:Nat}:∀l:List Elt,qM n (l.map JF)=true
 | []=>rfl
 | s::l=>by rw[List.map_cons,qM,Qq l];rfl
theorem Zf{n:Nat}:∀l:List qx,qM n (l.map jH)=true
 | []=>rfl
 | s::l=>by rw[List.map_cons,qM,Zf l];rfl
theorem zMb{n:Nat}(s:Setup):(je s (frA s)).lt n=true:=by
 simp only[frA,AV.lt,qy,Qp,Qq,Zf,wJ,Bool.and_self]
structure SFew (s:Setup):Prop where
 w:s.ways.length<1099511627776
 e:s.elements.length<1099511627776
 c:s.classes.length<1099511627776
 g:s.gears.length<1099511627776
 r:s.rates.length<1099511627776
 t:s.tiers.length<1099511627776
theorem jTb(h:List Ob)(s:Setup)(a:SA)(k:SIn h s a)(f:SFew s):
  ACalls Tryz.prog 76 [je s a] h λr h'=>r=je s (frA s)/\h'=h:=by
 refine zi Tryz.f76 [.cell 2 30] 28 rfl rfl rfl rfl rfl rfl (by decide) (⟨_,_,⟨rfl,rfl⟩,.refl⟩) λB=>?_
 simp only[go_sem,k.ones]
 refine zL rfl [] 0 [(0,0,[]),(3,0,[]),(6,0,[]),(1,0,[]),(4,0,[]),(7,0,[]),(2,0,[4,7]),(9,0,[]),(5,0,[7]),(8,0,[]),(10,0,[]),(11,0,[]),(12,0,[]),(13,0,[]),(14,0,[])] rfl (by decide) (by decide) ?_
 simp only[go_sem,k.ones]
 refine zg (wHa _ a.w _ (k.app _).w (by rw[zb];exact f.w) (Wza _) (Qp _)) ?_
 rintro _ b ⟨rfl,rfl⟩
 simp only[go_sem,k.ones]
 refine zg (wIa _ a.e _ (k.app _).e (by rw[zb];exact f.e) (WAa _) (Qq _)) ?_
 rintro _ b ⟨rfl,rfl⟩
 simp only[go_sem,k.ones]
 refine zg (zFa _ a.c _ (k.app _).c (by rw[zb];exact f.c) (j9a _) (Zf _)) ?_
 rintro _ b ⟨rfl,rfl⟩
 simp only[go_sem,k.ones]
 refine zL rfl [] 0 [(0,0,[]),(3,0,[]),(6,0,[]),(1,0,[]),(4,0,[]),(7,0,[]),(2,0,[4,7]),(9,0,[]),(5,0,[7]),(8,0,[]),(10,0,[]),(11,0,[]),(12,0,[]),(13,0,[]),(14,0,[])] rfl (by decide) (by decide) ?_
 simp only[go_sem,k.ones]
 refine zg (zFa _ a.g _ (k.app _).g (by rw[zb];exact f.g) (j9a _) (Zf _)) ?_
 rintro _ b ⟨rfl,rfl⟩
 simp only[go_sem,k.ones]
 refine zg (wJa _ a.r _ (k.app _).r (by rw[zb];exact f.r) (y3a _) (wJ _)) ?_
 rintro _ b ⟨rfl,rfl⟩
 simp only[go_sem,k.ones]
 refine zg (kRa _ a.t _ (k.app _).t (by rw[zb];exact f.t) (j9a _) (Zf _)) ?_
 rintro _ b ⟨rfl,rfl⟩
 simp only[go_sem,k.ones]
 refine⟨je s (frA s),by simp only[go_sem];rfl,.inr ⟨h,_,rfl,rfl,zMb s,.refl,rfl,rfl⟩⟩
abbrev wg(s:Setup)(a:SA)(x c:AV):List AV:=[i64 s.places,a.w,i64 s.pace.1,i64 s.pace.2,a.e,a.c,a.g,i64 s.allow,i64 s.unit,i64 s.cap,i64 s.paidBreak,i64 s.autoAfter,i64 s.autoBreak,
 i64 s.dayReg,i64 s.dayOver,i64 s.weekReg,i64 s.nightFrom,i64 s.nightTo,a.r,i64 s.diff,i64 s.least,i64 s.fault,a.t,x,c]
def jF:AV:= .v (.slice none 0 0)
def zS:Setup:=⟨0,[],(0,0),[],[],[],0,0,0,0,0,0,0,0,0,0,0,[],0,0,0,[]⟩
def zA:SA:=⟨jF,jF,jF,jF,jF,jF⟩
def QOa(s:Setup):AV:=if z6 s then .tup [.ag (wg s (frA s) jF jF),i64 0] else .tup [.ag (wg zS zA jF jF),i64 70]
theorem zNb{s:Setup}(h:z6 s=true):SFew s:=by
 simp only[z6,yU,yV,w8,zq,decide_eq_true_eq] at h
 have d:∀a b c:Int,VNa a b c<=8->a<=8/\b<=8/\c<=8:=λa b c h=>by
  unfold VNa at h
  split at h<;>split at h<;>omega
 have d:=d _ _ _ h.1.1.2.2
 exact⟨by omega,by omega,by omega,by omega,by omega,by omega⟩
theorem kkb(h:List Ob)(s:Setup)(a:SA)(k:SIn h s a)(f:SFit s):
  ACalls Tryz.prog 26 [je s a] h λr h'=>r=QOa s/\h'=h:=by
 refine zi Tryz.f26 [.cell 2 63,.tmp 3] 11 rfl rfl rfl rfl rfl rfl (by decide) (⟨_,_,⟨rfl,rfl⟩,.refl⟩) λB=>?_
 simp only[go_sem,k.ones]
 refine zg (c16 _ s a (k.app _) f) ?_
 rintro _ d ⟨rfl,rfl⟩
 cases b:z6 s
 ·have c:QOa s= .tup [.ag (wg zS zA jF jF),i64 70]:=by unfold QOa;rw[b];rfl
  simp only[go_sem,b,qt,Bool.not_false]
  refine⟨.tup [.ag (wg zS zA jF jF),i64 70],by simp only[go_sem];rfl,.inr ⟨h,_,rfl,rfl,rfl,.refl,c.symm,rfl⟩⟩
 ·have c:QOa s= .tup [.ag (wg s (frA s) jF jF),i64 0]:=by unfold QOa;rw[if_pos b]
  simp only[go_sem,b,qt,Bool.not_true,k.ones]
  refine zg (jTb _ s a (k.app _) (zNb b)) ?_
  rintro _ d ⟨rfl,rfl⟩
  simp only[go_sem,(yI (h:=h) s).ones]
  refine⟨.tup [.ag (wg s (frA s) jF jF),i64 0],by simp only[go_sem];rfl,.inr ⟨h,_,rfl,rfl,?_,.refl,c.symm,rfl⟩⟩
  simp only[frA,jF,AV.lt,qy,Qp,Qq,Zf,wJ,Bool.and_self]
theorem QP(q:List Int × Bool)(a b:List Int):kL q (a++b)=kL (kL q a) b:=by unfold kL;rw[qK]
structure PnH (h:List Ob) (i:Nat) (Q:List Int × Bool) (H:List Ob):Prop where
 eq:∃z L,Sb z Q.1/\H=h.set i (.box 107 [z,bl Q.2])++L/\NoRes L
theorem PnH.app{h:List Ob}{i:Nat}{Q:List Int × Bool}{H:List Ob}(k:PnH h i Q H){M:List Ob}(a:NoRes M):PnH h i Q (H++M):=by
 obtain⟨z,L,k1,k2,k3⟩:=k.eq
 exact⟨z,L++M,k1,by rw[k2,zt],k3.app a⟩
theorem PnH.get{h:List Ob}{i:Nat}{Q:List Int × Bool}{H:List Ob}(k:PnH h i Q H){m:Nat}{o:Ob}(a:m≠i)(b:h[m]? =some o):H[m]? =some o:=by
 obtain⟨z,L,k1,k2,k3⟩:=k.eq
 rw[k2]
 exact ze (by rw[zc (Ne.symm a)];exact b)
theorem zKa{h H:List Ob}{i:Nat}{Q:List Int × Bool}(k:PnH h i Q H)(a:i<h.length)(x:AV)(b:List (AV × Int))(d:SlOf H x 1 (b.map λp=>[p.1]))(f:∀p∈b,jSb H i p.1 p.2)(e:Q.1.length<536870912)(n:b.length<1048576):
  ACalls Tryz.prog 45 [.ptr i 0,x] H λr h'=>r= .tup []/\PnH h i (kL Q (b.map (·.2))) h'/\∀m o,m≠i->H[m]? =some o->h'[m]? =some o:=by
 obtain⟨z,L,k1,k2,k3⟩:=k.eq
 have c:H[i]? =some (.box 107 [z,bl Q.2]):=by rw[k2];exact ze (zp a)
 refine(kjb H i z Q.1 Q.2 x b c k1 d f e n).mono ?_
 rintro r h' ⟨rfl,j,q,rfl⟩
 refine⟨rfl,⟨j,L,q,?_,k3⟩,λm o l g=>by rw[zc (Ne.symm l)];exact g⟩
 rw[k2,qr _ _ (by rw[zN];exact a),qd]
def XS(R:RowV):List Int:=[R.tot 0,R.tot 1,R.tot 2,R.tot 3,R.tot 4,R.tot 5,R.tot 6]
def Xk(R:RowV):List Int:=[R.pays 0,R.pays 1,R.pays 2,R.pays 3,R.pays 4,R.pays 5,R.pays 6]
def Zg(R:RowV):List Int:=[R.worker,R.week,R.err]++XS R++Xk R++[R.earned.1,R.earned.2,R.perf.1,R.perf.2,R.elig,wr (R.tier+1),R.extra,R.supp,R.total]
theorem zOb(R:RowV)(fl:AV){k:Nat}(a:k<7):nth (vB R fl) (3+k)=i64 (R.tot k)/\(XS R)[k]? =some (R.tot k):=by
 have:k=0∨k=1∨k=2∨k=3∨k=4∨k=5∨k=6:=by omega
 rcases this with rfl|rfl|rfl|rfl|rfl|rfl|rfl<;>exact⟨rfl,rfl⟩
theorem WBa(R:RowV)(fl:AV){k:Nat}(a:k<7):nth (vB R fl) (10+k)=i64 (R.pays k)/\(Xk R)[k]? =some (R.pays k):=by
 have:k=0∨k=1∨k=2∨k=3∨k=4∨k=5∨k=6:=by omega
 rcases this with rfl|rfl|rfl|rfl|rfl|rfl|rfl<;>exact⟨rfl,rfl⟩
theorem jaa{l:List Int}{k:Nat}{n:Int}(h:l[k]? =some n):l.take (k+1)=l.take k++[n]:=by
 obtain⟨a,b⟩:=zd.1 h
 rw[<-b];exact(zE a).symm
theorem zPb(h:List Ob)(i j:Nat)(z:AV)(Q:List Int × Bool)(R:RowV)(fl:AV)(a:j≠i)(hi:h[i]? =some (.box 107 [z,bl Q.2]))(P:Sb z Q.1)(y:h[j]? =some (.box 45 (vB R fl)))(N:Fit R.tier/\Fit (R.tier+1))(W:AV.one fl=true)(hQ:Q.1.length<268435456):
  ACalls Tryz.prog 49 [.ptr j 0,.fn (.func 45) [.ptr i 0] []] h λr h'=>r= .tup []/\PnH h i (kL Q (Zg R)) h':=by
 have o:=(zd.1 hi).1
 have hex:∃r h',(r=AV.tup []/\PnH h i (kL Q (Zg R)) h')/\ResK h h':=
  ⟨_,h.set i (.box 107 [.sl 1 ((kL Q (Zg R)).1.map xv),bl (kL Q (Zg R)).2]),⟨rfl,_,[],.inl rfl,by simp,jh⟩,qi hi rfl⟩
 have base:PnH h i Q h:=⟨z,[],P,by rw[zH];exact(qS hi).symm,jh⟩
 have t:=λns=>Xi ns Q
 refine zi Tryz.f49 [] 90 rfl rfl rfl rfl rfl rfl (by decide) (hex) λB=>?_
 simp only[go_sem,y]
 refine zL rfl [.res] 1 [(0,0,[]),(1,0,[]),(2,0,[]),(3,0,[]),(4,0,[]),(5,0,[]),(6,0,[]),(7,0,[]),(8,0,[])] rfl (by decide) (by decide) ?_
 simp only[go_sem]
 have k0:=base.app (M:=[.box 3 [i64 R.err],.row 109 1 [[.ptr j 0],[.ptr j 1],[.ptr h.length 0]] 0]) (zl rfl (zD rfl))
 have q:=k0.get a y
 have u:(h++[Ob.box 3 [i64 R.err],.row 109 1 [[.ptr j 0],[.ptr j 1],[.ptr h.length 0]] 0])[h.length]? =some (.box 3 [i64 R.err]):=by rw[zM rfl];rfl
 refine zg (zKa k0 o (.tl (h.length+1) 0) [(.ptr j 0,R.worker),(.ptr j 1,R.week),(.ptr h.length 0,R.err)] ⟨by rw[qZ,zG (k:=1) rfl];rfl,λ_=>by rw[jP,zG (k:=1) rfl];rfl⟩ (λp d=>by
  rcases zx.1 d with rfl|d
  ·exact⟨j,0,_,_,rfl,a,q,by show 0<27;decide,rfl⟩
  rcases zx.1 d with rfl|d
  ·exact⟨j,1,_,_,rfl,a,q,by show 1<27;decide,rfl⟩
  rw[zW] at d
  subst d
  exact⟨h.length,0,_,_,rfl,by omega,u,by show 0<1;decide,rfl⟩) (by omega) (by show 3<1048576;decide)) ?_
 rintro _ H1 ⟨rfl,k1,L⟩
 have b:=L j _ a q
 have C:=L h.length _ (by omega) u
 simp only[go_sem,b,C]
 rw[qS b]
 refine zI (by decide) (λm T H=>∃n:Nat,n<=7/\PnH h i (kL Q ([R.worker,R.week,R.err]++(XS R).take n)) H/\T 0= .ptr j 0/\T 1= .fn (.func 45) [.ptr i 0] []/\T 25=i64 n/\m=7 - n) 7
  ⟨0,by omega,k1,by simp only[go_sem],by simp only[go_sem],by(simp only[go_sem]<;>rfl),rfl⟩ ?_
 clear k0 k1 q b u C L
 rintro m T H ⟨n,V,l,t0,t1,t25,rfl⟩
 simp only[go_sem,t25]
 refine ways (λe=>?_) (λe=>?_)
 ·have v:(n:Int)<7:=of_decide_eq_true e
  have c:n<7:=by omega
  have g:=l.get a y
  obtain⟨I,J⟩:=zOb R fl c
  simp only[go_sem,t0,t1,t25,v,c,Nat.mul_one,Int.toNat_natCast,zh]
  have f:=l.app (M:=[.row 109 1 [[.ptr j (3+n)]] 0]) (zD rfl)
  have E:=t ([R.worker,R.week,R.err]++(XS R).take n)
  have s:([R.worker,R.week,R.err]++(XS R).take n).length<=10:=by simp[XS];omega
  refine zg (zKa f o (.tl H.length 0) [(.ptr j (3+n),R.tot n)] ⟨by rw[qZ,zM rfl];rfl,λ_=>by rw[jP,zM rfl];rfl⟩ (λp d=>by
   rw[zW] at d
   subst d
   exact⟨j,3+n,_,_,rfl,a,ze g,by show 3+n<27;omega,I⟩) (by omega) (by show 1<1048576;decide)) ?_
  rintro _ O ⟨rfl,k2,F⟩
  rw[<-QP] at k2
  simp only[go_sem,t25]
  exact⟨7 - (n+1),by omega,n+1,by omega,by rw[jaa J];simpa using k2,t0,t1,qf (by omega) rfl,rfl⟩
 ·have G:¬ (n:Int)<7:=of_decide_eq_false e
  have w:n=7:=by omega
  subst w
  simp only[go_sem]
  refine zI (by decide) (λm T H=>∃n:Nat,n<=7/\PnH h i (kL Q ([R.worker,R.week,R.err]++XS R++(Xk R).take n)) H/\T 0= .ptr j 0/\T 1= .fn (.func 45) [.ptr i 0] []/\T 37=i64 n/\m=7 - n) 7
   ⟨0,by omega,by simpa [XS] using l,by simp only[go_sem,t0],by simp only[go_sem,t1],by(simp only[go_sem]<;>rfl),rfl⟩ ?_
  clear l t0 t1 t25
  rintro m T H ⟨n,V,l,t0,t1,x,rfl⟩
  simp only[go_sem,x]
  refine ways (λe=>?_) (λe=>?_)
  ·have v:(n:Int)<7:=of_decide_eq_true e
   have c:n<7:=by omega
   have g:=l.get a y
   obtain⟨I,J⟩:=WBa R fl c
   simp only[go_sem,t0,t1,x,v,c,Nat.mul_one,Int.toNat_natCast,zh]
   have f:=l.app (M:=[.row 109 1 [[.ptr j (10+n)]] 0]) (zD rfl)
   have E:=t ([R.worker,R.week,R.err]++XS R++(Xk R).take n)
   have s:([R.worker,R.week,R.err]++XS R++(Xk R).take n).length<=17:=by simp[XS,Xk];omega
   refine zg (zKa f o (.tl H.length 0) [(.ptr j (10+n),R.pays n)] ⟨by rw[qZ,zM rfl];rfl,λ_=>by rw[jP,zM rfl];rfl⟩ (λp d=>by
    rw[zW] at d
    subst d
    exact⟨j,10+n,_,_,rfl,a,ze g,by show 10+n<27;omega,I⟩) (by omega) (by show 1<1048576;decide)) ?_
   rintro _ O ⟨rfl,k2,F⟩
   rw[<-QP] at k2
   simp only[go_sem,x]
   exact⟨7 - (n+1),by omega,n+1,by omega,by rw[jaa J];simpa using k2,t0,t1,qf (by omega) rfl,rfl⟩
  ·have G:¬ (n:Int)<7:=of_decide_eq_false e
   have w:n=7:=by omega
   subst w
   have g:=l.get a y
   simp only[go_sem,t0,g]
   refine zL rfl [.res] 1 [(0,0,[]),(1,0,[]),(2,0,[]),(3,0,[]),(4,0,[]),(5,0,[]),(6,0,[]),(7,0,[]),(8,0,[]),(9,0,[]),(10,0,[]),(11,0,[]),(12,0,[]),(13,0,[]),(14,0,[]),(15,0,[]),(16,0,[]),(17,0,[]),(18,0,[]),(19,0,[]),(20,0,[]),(21,0,[]),(22,0,[]),(23,0,[]),(24,0,[]),(25,0,[]),(26,0,[]),(27,0,[]),(28,0,[]),(29,0,[]),(30,0,[])] rfl (by decide) (by decide) ?_
   simp only[go_sem,t0,t1]
   have X:IntKind.wrap .i64 (R.tier+1)=R.tier+1:=qp (n:=R.tier+1) N.2
   have f:=l.app (M:=[.box 3 [i64 (wr (R.tier+1))],.row 109 1 [[.ptr j 17],[.ptr j 18],[.ptr j 19],[.ptr j 20],[.ptr j 21],[.ptr H.length 0],[.ptr j 23],[.ptr j 24],[.ptr j 25]] 0]) (zl rfl (zD rfl))
   have S:i<H.length:=by
    obtain⟨z0,Z,_,Y,_⟩:=l.eq
    rw[Y,zf,zN];omega
   have b:=f.get a y
   have A:(H++[Ob.box 3 [i64 (wr (R.tier+1))],.row 109 1 [[.ptr j 17],[.ptr j 18],[.ptr j 19],[.ptr j 20],[.ptr j 21],[.ptr H.length 0],[.ptr j 23],[.ptr j 24],[.ptr j 25]] 0])[H.length]? =some (.box 3 [i64 (wr (R.tier+1))]):=by rw[zM rfl];rfl
   have E:=t ([R.worker,R.week,R.err]++XS R++(Xk R).take 7)
   have s:([R.worker,R.week,R.err]++XS R++(Xk R).take 7).length<=17:=by simp[XS,Xk]
   refine zg (zKa f o (.tl (H.length+1) 0) [(.ptr j 17,R.earned.1),(.ptr j 18,R.earned.2),(.ptr j 19,R.perf.1),(.ptr j 20,R.perf.2),(.ptr j 21,R.elig),(.ptr H.length 0,wr (R.tier+1)),(.ptr j 23,R.extra),(.ptr j 24,R.supp),(.ptr j 25,R.total)]
    ⟨by rw[qZ,zG (k:=1) rfl];rfl,λ_=>by rw[jP,zG (k:=1) rfl];rfl⟩ (λp d=>by
    simp only[zx,List.not_mem_nil,or_false] at d
    rcases d with rfl|rfl|rfl|rfl|rfl|rfl|rfl|rfl|rfl
    ·exact⟨j,17,_,_,rfl,a,b,by show 17<27;decide,rfl⟩
    ·exact⟨j,18,_,_,rfl,a,b,by show 18<27;decide,rfl⟩
    ·exact⟨j,19,_,_,rfl,a,b,by show 19<27;decide,rfl⟩
    ·exact⟨j,20,_,_,rfl,a,b,by show 20<27;decide,rfl⟩
    ·exact⟨j,21,_,_,rfl,a,b,by show 21<27;decide,rfl⟩
    ·exact⟨H.length,0,_,_,rfl,by omega,A,by show 0<1;decide,rfl⟩
    ·exact⟨j,23,_,_,rfl,a,b,by show 23<27;decide,rfl⟩
    ·exact⟨j,24,_,_,rfl,a,b,by show 24<27;decide,rfl⟩
    ·exact⟨j,25,_,_,rfl,a,b,by show 25<27;decide,rfl⟩) (by omega) (by show 9<1048576;decide)) ?_
   rintro _ O ⟨rfl,k2,F⟩
   have D:=F j _ a b
   have K:=F H.length _ (by omega) A
   have U:IntKind.wrap .i64 (wr (R.tier+1) - 1)=R.tier:=by
    rw[show wr (R.tier+1)=R.tier+1 from X]
    exact(qp (n:=R.tier+1 - 1) (by have:=N.1;unfold Fit at *; omega)).trans (by omega)
   rw[<-QP] at k2
   simp only[go_sem,t0,D,K,U]
   rw[qS D]
   exact⟨_,rfl,.inl ⟨rfl,by simpa [Zg,Xk,XS] using k2⟩⟩
theorem PnH.base{h M:List Ob}{i:Nat}{Q:List Int × Bool}{H:List Ob}(k:PnH (h++M) i Q H)(hi:i<h.length)(a:NoRes M):PnH h i Q H:=by
 obtain⟨z,L,k1,k2,k3⟩:=k.eq
 exact⟨z,M++L,k1,by rw[k2,qr _ _ hi,zt],a.app k3⟩
theorem PnH.sl{h:List Ob}{i:Nat}{Q:List Int × Bool}{H:List Ob}(k:PnH h i Q H){t:TypeId}{cs:List AV}(hi:h[i]? =some (.box t cs)){x:AV}{e:Nat}{rows:List (List AV)}(a:SlOf h x e rows):SlOf H x e rows:=by
 obtain⟨z,L,k1,k2,k3⟩:=k.eq
 rw[k2]
 exact(a.keep (.setB hi)).app _
def Xl(F:List Flg):List Int:=F.flatMap λf=>[f.id,f.kind]
theorem Wc:∀F:List Flg,(Xl F).length=2*F.length
 | []=>rfl
 | f::F=>by
   have:=Wc F
   unfold Xl at*
   rw[List.flatMap_cons,zf,List.length_cons,this];simp;omega
theorem wQa{F:List Flg}{n:Nat}(h:n<F.length):Xl (F.take (n+1))=Xl (F.take n)++[(F[n]).id,(F[n]).kind]:=by
 unfold Xl
 rw[show F.take (n+1)=F.take n++[F[n]] from(zE h).symm,List.flatMap_append];simp
def wE(R:RowV)(F:List Flg):List Int:=Zg R++[(F.length:Int)]++Xl F
theorem Kv(R:RowV):(Zg R).length=26:=rfl
theorem y4a(h:List Ob)(i:Nat)(z:AV)(Q:List Int × Bool)(R:RowV)(fl:AV)(F:List Flg)(hi:h[i]? =some (.box 107 [z,bl Q.2]))(hz:Sb z Q.1)(ht:Fit R.tier/\Fit (R.tier+1))(L:SlOf h fl 2 (F.map km))(hQ:Q.1.length<134217728)(η:F.length<524288):
  ACalls Tryz.prog 46 [.ptr i 0,.ag (vB R fl)] h λr h'=>r= .tup []/\PnH h i (kL Q (wE R F)) h':=by
 have c:=(zd.1 hi).1
 have A:=L.one
 have hex:∃r h',(r=AV.tup []/\PnH h i (kL Q (wE R F)) h')/\ResK h h':=
  ⟨_,h.set i (.box 107 [.sl 1 ((kL Q (wE R F)).1.map xv),bl (kL Q (wE R F)).2]),⟨rfl,_,[],.inl rfl,by simp,jh⟩,qi hi rfl⟩
 have q:=λns=>Xi ns Q
 refine zi Tryz.f46 [] 29 rfl rfl rfl rfl rfl rfl (by decide) (hex) λB=>?_
 simp only[go_sem,A]
 have W:(h++[Ob.box 45 (vB R fl)])[i]? =some (.box 107 [z,bl Q.2]):=ze hi
 have x:(h++[Ob.box 45 (vB R fl)])[h.length]? =some (.box 45 (vB R fl)):=by rw[zM rfl];rfl
 have f:h.length≠i:=by omega
 refine zg (zPb _ i h.length z Q R fl f W hz x ht A (by omega)) ?_
 rintro _ b ⟨rfl,k1⟩
 have l:=k1.get f x
 have G:qa b fl=some (F.map km):=by
  obtain⟨z0,Y,_,C,_⟩:=k1.eq
  rw[C,qr _ _ c,zt]
  exact((L.keep (.setB hi)).app _).rows
 simp only[go_sem,l,G,zb]
 have P:=k1.base c (zD rfl)
 have J:=P.app (M:=[.box 3 [i64 F.length],.row 109 1 [[.ptr b.length 0]] 0]) (zl rfl (zD rfl))
 have K:=q (Zg R)
 rw[Kv] at K
 have ε:i<b.length:=by
  obtain⟨z0,Y,_,C,_⟩:=P.eq
  rw[C,zf,zN];omega
 have a:(b++[Ob.box 3 [i64 F.length],.row 109 1 [[.ptr b.length 0]] 0])[b.length]? =some (.box 3 [i64 F.length]):=by rw[zM rfl];rfl
 have I:(b++[Ob.box 3 [i64 F.length],.row 109 1 [[.ptr b.length 0]] 0])[h.length]? =some (.box 45 (vB R fl)):=ze l
 refine zg (zKa J c (.tl (b.length+1) 0) [(.ptr b.length 0,(F.length:Int))] ⟨by rw[qZ,zG (k:=1) rfl];rfl,λ_=>by rw[jP,zG (k:=1) rfl];rfl⟩ (λp E=>by
  rw[zW] at E
  subst E
  exact⟨b.length,0,_,_,rfl,by omega,a,by show 0<1;decide,rfl⟩) (by omega) (by show 1<1048576;decide)) ?_
 rintro _ H2 ⟨rfl,k2,X⟩
 rw[<-QP] at k2
 have w:=X h.length _ f I
 have t:=(k2.sl hi L).rows
 simp only[go_sem,w,t,zb]
 refine zI (by decide) (λm T H=>∃n:Nat,n<=F.length/\PnH h i (kL Q (Zg R++[(F.length:Int)]++Xl (F.take n))) H/\T 0= .ptr i 0/\T 17=fl/\T 18=i64 F.length/\T 19=i64 n/\m=F.length - n) F.length
  ⟨0,by omega,by simpa [Xl] using k2,by simp only[go_sem],by simp only[go_sem],by(simp only[go_sem]<;>rfl),by(simp only[go_sem]<;>rfl),rfl⟩ ?_
 clear k1 k2 P J l I w t G a X
 rintro m T H ⟨n,hn,s,t0,y,v,o,rfl⟩
 simp only[go_sem,v,o]
 refine ways (λe=>?_) (λe=>?_)
 ·have j:=dlt e
  have d:=yWa j
  have N:(n:Int)<F.length:=by omega
  have u:=s.sl hi L
  have O:=u.at (i:=n) (by rw[zb];exact j)
  have V:=u.rows
  have D:=wQa j
  obtain⟨g,hg⟩:∃g,g=F[n]:=⟨_,rfl⟩
  rw[<-hg] at d D
  simp only[go_sem,t0,y,o,O,V,d,N,zb,Int.toNat_natCast,zh]
  have γ:i<H.length:=by
   obtain⟨z0,Y,_,C,_⟩:=s.eq
   rw[C,zf,zN];omega
  have U:=s.app (M:=[.box 105 [i64 g.id,i64 g.kind],.row 109 1 [[.ptr H.length 0],[.ptr H.length 1]] 0]) (zl rfl (zD rfl))
  have a:(H++[Ob.box 105 [i64 g.id,i64 g.kind],.row 109 1 [[.ptr H.length 0],[.ptr H.length 1]] 0])[H.length]? =some (.box 105 [i64 g.id,i64 g.kind]):=by rw[zM rfl];rfl
  have K:=q (Zg R++[(F.length:Int)]++Xl (F.take n))
  have Z:(Zg R++[(F.length:Int)]++Xl (F.take n)).length<=27+2*F.length:=by
   rw[zf,zf,Kv,Wc,zJ]
   show 26+1+_<=_
   omega
  refine zg (zKa U c (.tl (H.length+1) 0) [(.ptr H.length 0,g.id),(.ptr H.length 1,g.kind)] ⟨by rw[qZ,zG (k:=1) rfl];rfl,λ_=>by rw[jP,zG (k:=1) rfl];rfl⟩ (λp E=>by
   simp only[zx,List.not_mem_nil,or_false] at E
   rcases E with rfl|rfl
   ·exact⟨H.length,0,_,_,rfl,by omega,a,by show 0<2;decide,rfl⟩
   ·exact⟨H.length,1,_,_,rfl,by omega,a,by show 1<2;decide,rfl⟩) (by omega) (by show 2<1048576;decide)) ?_
  rintro _ H3 ⟨rfl,k3,g3⟩
  rw[<-QP] at k3
  simp only[go_sem,o]
  exact⟨F.length - (n+1),by omega,n+1,by omega,by rw[D];simpa using k3,t0,y,v,qf (by omega) rfl,rfl⟩
 ·have α:=j9 e
  have S:n=F.length:=by omega
  subst S
  rw[zP] at s
  simp only[go_sem]
  exact⟨_,rfl,.inl ⟨rfl,s⟩⟩
def Qr(R:RowV)(F:List Flg):Bool:= !(decide (R.err>100000) || decide ((F.length:Int)>200)) && (kL ([],true) (wE R F)).2
theorem zQb(h:List Ob)(R:RowV)(fl:AV)(F:List Flg)(l:Fit R.tier/\Fit (R.tier+1))(d:SlOf h fl 2 (F.map km))(f:F.length<524288):
  ACalls Tryz.prog 19 [.ag (vB R fl)] h λr h'=>r=bl (Qr R F)/\h'=h:=by
 have e:=d.one
 have b:∀M,qa (h++M) fl=some (F.map km):=λM=>(d.app M).rows
 refine zi Tryz.f19 [.tmp 2] 18 rfl rfl rfl rfl rfl rfl (by decide) (⟨_,_,⟨rfl,rfl⟩,.refl⟩) λB=>?_
 simp only[go_sem,e]
 cases a:decide (R.err>100000)
 ·cases c:decide ((F.length:Int)>200)
  ·simp only[go_sem,a,c,qt,b,zb]
   have hi:(h++[Ob.box 45 (vB R fl),.box 107 [.v (.slice none 0 0),bl true]])[h.length+1]? =some (.box 107 [.v (.slice none 0 0),bl true]):=by rw[zG (k:=1) rfl];rfl
   refine zg (y4a _ (h.length+1) (.v (.slice none 0 0)) ([],true) R fl F hi (.inr ⟨rfl,rfl⟩) l (d.app _) (by decide) f) ?_
   rintro _ j ⟨rfl,k1⟩
   obtain⟨z,L,m,g,z3⟩:=k1.eq
   have i:j[h.length+1]? =some (.box 107 [z,bl (kL ([],true) (wE R F)).2]):=by rw[g];exact ze (zp (by simp))
   simp only[go_sem,i]
   refine⟨bl (kL ([],true) (wE R F)).2,by simp only[go_sem],.inr ⟨h,[.box 45 (vB R fl),.box 107 [z,bl (kL ([],true) (wE R F)).2]]++L,?_,rfl,rfl,.refl,?_,rfl⟩⟩
   ·rw[g,zU _ _ (by omega),show h.length+1 - h.length=1 by omega,zt];rfl
   ·unfold Qr;rw[a,c];rfl
  ·simp only[go_sem,a,c,qt,b,zb]
   refine zn ?_<;>(simp only[go_sem,Qr,a,c,Bool.or_true,Bool.not_true,Bool.false_and]<;>try rfl)
 ·simp only[go_sem,a,qt]
  refine zn ?_<;>(simp only[go_sem,Qr,a,Bool.true_or,Bool.not_true,Bool.false_and]<;>try rfl)
def JB(W:List (RowV × List Flg)):List Int:=W.flatMap λq=>wE q.1 q.2
def okW(W:List (RowV × List Flg)):Bool:=W.all λq=>Qr q.1 q.2
def j5(W:List (RowV × List Flg)):List Int × Int:=if okW W then((kL ([],true) ([(W.length:Int)]++JB W)).1,0) else([],200)
abbrev RwA:=RowV × AV × List Flg
def kO(W:List RwA):List (RowV × List Flg):=W.map λq=>(q.1,q.2.2)
theorem jba:∀W:List (RowV × List Flg),okW W=true->(JB W).length<=427*W.length
 | [],_=>by simp[JB]
 | q::W,h=>by
   unfold okW at h
   rw[List.all_cons,zq] at h
   have c:=jba W h.2
   have b:(wE q.1 q.2).length<=427:=by
    have a:=h.1
    unfold Qr at a
    simp only[zq,Bool.not_eq_true',zY,decide_eq_false_iff_not] at a
    unfold wE
    rw[zf,zf,Kv,Wc]
    show 26+1+_<=_
    omega
   unfold JB at*
   rw[List.flatMap_cons,zf,List.length_cons]
   omega
theorem PnH.trans{h H d:List Ob}{i:Nat}{Q Q':List Int × Bool}(k:PnH h i Q H)(k':PnH H i Q' d)(hi:i<h.length):PnH h i Q' d:=by
 obtain⟨z,L,k1,k2,k3⟩:=k.eq
 obtain⟨e,f,a,b,c⟩:=k'.eq
 exact⟨e,L++f,a,by rw[b,k2,qr _ _ (by rw[zN];exact hi),qd,zt],k3.app c⟩
theorem wRa{W:List RwA}{n:Nat}(h:n<W.length):kO (W.take (n+1))=kO (W.take n)++[((W[n]).1,(W[n]).2.2)]:=by
 unfold kO
 rw[show W.take (n+1)=W.take n++[W[n]] from(zE h).symm,zw];rfl
theorem PnH.over{h b H:List Ob}{o:Ob}{Q:List Int × Bool}(a:b=h++[o])(k:PnH b h.length Q H):∃L,H=h++L:=by
 obtain⟨z,L,k1,k2,k3⟩:=k.eq
 subst a
 refine⟨[.box 107 [z,bl Q.2]]++L,?_⟩
 rw[k2,zU _ _ (zo _),Nat.sub_self,zt]
 rfl
theorem WCa(h:List Ob)(x:AV)(W:List RwA)(X:SlOf h x 27 (W.map λq=>vB q.1 q.2.1))(hF:∀q∈W,SlOf h q.2.1 2 (q.2.2.map km)/\(Fit q.1.tier/\Fit (q.1.tier+1))/\q.2.2.length<524288)(hl:W.length<4096):
  ACalls Tryz.prog 15 [x] h λr h'=>(∃z,Sb z (j5 (kO W)).1/\r= .tup [z,i64 (j5 (kO W)).2])/\h'=h:=by
 have hex:∃r h',((∃z,Sb z (j5 (kO W)).1/\r=AV.tup [z,i64 (j5 (kO W)).2])/\h'=h)/\ResK h h':=⟨_,_,⟨⟨_,.inl rfl,rfl⟩,rfl⟩,.refl⟩
 have χ:=X.rows
 have η:∀M,qa (h++M) x=some (W.map λq=>vB q.1 q.2.1):=λM=>(X.app M).rows
 refine zi Tryz.f15 [.tmp 2,.tmp 3] 27 rfl rfl rfl rfl rfl rfl (by decide) (hex) λB=>?_
 simp only[go_sem,η,zb]
 obtain⟨j,a⟩:∃j,j=h++[Ob.box 107 [.v (.slice none 0 0),bl true]]:=⟨_,rfl⟩
 have hi:j[h.length]? =some (.box 107 [.v (.slice none 0 0),bl true]):=by rw[a,zM rfl];rfl
 have o:h.length<j.length:=by rw[a];simp
 have base:PnH j h.length ([],true) j:=⟨_,[],.inr ⟨rfl,rfl⟩,by rw[zH];exact(qS hi).symm,jh⟩
 have C:=base.app (M:=[.box 3 [i64 W.length],.row 109 1 [[.ptr (h.length+1) 0]] 0]) (zl rfl (zD rfl))
 have hE:j++[Ob.box 3 [i64 W.length],.row 109 1 [[.ptr (h.length+1) 0]] 0]=h++[Ob.box 107 [.v (.slice none 0 0),bl true],.box 3 [i64 W.length],.row 109 1 [[.ptr (h.length+1) 0]] 0]:=by rw[a];simp
 rw[hE] at C
 refine zg (zKa C o (.tl (h.length+2) 0) [(.ptr (h.length+1) 0,(W.length:Int))] ⟨by rw[qZ,zG (k:=2) rfl];rfl,λ_=>by rw[jP,zG (k:=2) rfl];rfl⟩ (λp hp=>by
  rw[zW] at hp
  subst hp
  exact⟨h.length+1,0,_,_,rfl,by omega,by rw[zG (k:=1) rfl];rfl,by show 0<1;decide,rfl⟩) (by decide) (by show 1<1048576;decide)) ?_
 rintro _ H2 ⟨rfl,k2,g2⟩
 have O:SlOf j x 27 (W.map λq=>vB q.1 q.2.1):=by rw[a];exact X.app _
 have δ:∀q∈W,SlOf j q.2.1 2 (q.2.2.map km):=λq hq=>by rw[a];exact(hF q hq).1.app _
 have S:=(k2.sl hi O).rows
 simp only[go_sem,S,zb]
 refine zI (by decide) (λm T H=>∃n:Nat,n<=W.length/\okW (kO (W.take n))=true/\PnH j h.length (kL ([],true) ([(W.length:Int)]++JB (kO (W.take n)))) H/\T 4= .ptr h.length 0/\T 13=x/\T 14=i64 W.length/\T 15=i64 n/\m=W.length - n) W.length
  ⟨0,by omega,rfl,by simpa [JB,kO] using k2,by simp only[go_sem],by simp only[go_sem],by(simp only[go_sem]<;>rfl),by(simp only[go_sem]<;>rfl),rfl⟩ ?_
 clear k2 C g2 S
 rintro m T H ⟨n,hn,c,t,t4,D,J,w,rfl⟩
 simp only[go_sem,J,w]
 refine ways (λe=>?_) (λe=>?_)
 ·have s:=dlt e
  have d:(W.map λq=>vB q.1 q.2.1)[n]? =some (vB (W[n]).1 (W[n]).2.1):=by rw[zz,zj s];rfl
  have Y:(n:Int)<W.length:=by omega
  have K:=t.sl hi O
  have Z:=K.at (i:=n) (by rw[zb];exact s)
  have ε:=K.rows
  have l:=wRa s
  have b:=zy s
  obtain⟨⟨R,fl,F⟩,hg⟩:∃g,g=W[n]:=⟨_,rfl⟩
  rw[<-hg] at d l b
  obtain⟨q1,q2,q3⟩:=hF _ b
  have u:=δ _ b
  simp only at d l q1 q2 q3 u
  have f:=t.sl hi u
  have N:=f.one
  simp only[go_sem,t4,D,w,Z,ε,d,Y,N,zb,Int.toNat_natCast,zh]
  refine zg (zQb _ R fl F q2 (f.app _) q3) ?_
  rintro _ H3 ⟨rfl,e3⟩
  rw[e3]
  cases V:Qr R F
  ·have Q:okW (kO W)=false:=by
    unfold okW
    rw[List.all_eq_false]
    exact⟨(R,F),zr.2 ⟨(R,fl,F),b,rfl⟩,by simp[V]⟩
   have I:j5 (kO W)=([],200):=by unfold j5;rw[Q];rfl
   simp only[go_sem,V,qt,Bool.not_false]
   obtain⟨L',A⟩:=(t.app (M:=[Ob.box 45 (vB R fl)]) (zD rfl)).over a
   exact⟨.tup [.v (.slice none 0 0),i64 200],rfl,.inr ⟨h,L',A,rfl,rfl,.refl,⟨_,by rw[I];exact .inr ⟨rfl,rfl⟩,by rw[I]⟩,rfl⟩⟩
  ·have P:okW (kO (W.take (n+1)))=true:=by
    rw[l];unfold okW at c ⊢;rw[List.all_append,c];simp[V]
   simp only[go_sem,V,qt,Bool.not_true,t4,N]
   obtain⟨z,L,U,z2,z3⟩:=t.eq
   have y:(H++[Ob.box 45 (vB R fl)])[h.length]? =some (.box 107 [z,bl (kL ([],true) ([(W.length:Int)]++JB (kO (W.take n)))).2]):=by
    rw[z2];exact ze (ze (zp o))
   have G:=Xi ([(W.length:Int)]++JB (kO (W.take n))) ([],true)
   have τ:=jba _ c
   have ν:(kO (W.take n)).length<=W.length:=by unfold kO;rw[zb,zJ];omega
   have E:(kL ([],true) ([(W.length:Int)]++JB (kO (W.take n)))).1.length<134217728:=by
    rw[zf] at G
    simp only[List.length_nil,List.length_cons] at G
    omega
   refine zg (y4a _ h.length z _ R fl F y U q2 (f.app _) E q3) ?_
   rintro _ H4 ⟨rfl,k4⟩
   have k5:=(t.app (M:=[Ob.box 45 (vB R fl)]) (zD rfl)).trans k4 o
   rw[<-QP] at k5
   simp only[go_sem,w]
   exact⟨W.length - (n+1),by omega,n+1,by omega,P,by rw[l];simpa [JB] using k5,t4,D,J,qf (by omega) rfl,rfl⟩
 ·have μ:=j9 e
  have α:n=W.length:=by omega
  subst α
  rw[zP] at c t
  have I:j5 (kO W)=((kL ([],true) ([(W.length:Int)]++JB (kO W))).1,0):=by
   unfold j5;rw[c];simp[kO]
  obtain⟨z,L,U,z2,z3⟩:=t.eq
  have y:H[h.length]? =some (.box 107 [z,bl (kL ([],true) ([(W.length:Int)]++JB (kO W))).2]):=by
   rw[z2];exact ze (zp o)
  simp only[go_sem,t4,y]
  obtain⟨L',A⟩:=t.over a
  exact⟨.tup [z,i64 0],rfl,.inr ⟨h,L',A,rfl,by simp only[AV.lt,qy,U.lt,Bool.and_self],.refl,⟨z,by rw[I];exact U,by rw[I]⟩,rfl⟩⟩
theorem Kra(h:List Ob)(x:AV)(W:List RwA)(b:SlOf h x 27 (W.map λq=>vB q.1 q.2.1))(c:∀q∈W,SlOf h q.2.1 2 (q.2.2.map km)/\(Fit q.1.tier/\Fit (q.1.tier+1))/\q.2.2.length<524288)(e:W.length<4096):
  ACalls Tryz.prog 15 [x] h λr h'=>r= .tup [.sl 1 ((j5 (kO W)).1.map xv),i64 (j5 (kO W)).2]/\h'=h:=
 wP (WCa h x W b c e) λr h' ⟨⟨z,g,d⟩,a⟩=>by
  subst d
  rcases g with rfl|⟨rfl,f⟩
  ·exact⟨_,⟨rfl,a⟩,.refl _⟩
  ·refine⟨_,⟨rfl,a⟩,.two ?_ (.refl _)⟩
   rw[f]
   exact .nil 1
