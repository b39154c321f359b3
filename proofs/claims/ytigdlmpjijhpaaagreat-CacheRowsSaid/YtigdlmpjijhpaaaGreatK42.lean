import Derived.Test.YtigdlmpjijhpaaaGreatKA
import Derived.Test.YtigdlmpjijhpaaaGreatK40
import Derived.Test.YtigdlmpjijhpaaaGreatK33
import Derived.Test.YtigdlmpjijhpaaaGreatK38
import Derived.Test.YtigdlmpjijhpaaaGreatK13
import Derived.WideKeyRuns
import Derived.WideKeyEntry
import Derived.Maps.RangeRun
import Derived.Test.YtigdlmpjijhpaaaGreatK10
import Derived.Test.YtigdlmpjijhpaaaGreatK41
import Derived.Test.YtigdlmpjijhpaaaGreatK37
set_option linter.all false
namespace Go.Proofs.YtigdlmpjijhpaaaGreat.Ax
open Go Go.Proofs
set_option maxRecDepth 100000
section
variable {h:List Ob} {d:Nat} {s:Setup} {a:SA} {x c:AV} {err:Int} {rows segs bytes:AV} {q:Cm}
theorem jDb(i:h[d]? =some (.box 154 (qN s a x c err rows segs bytes q)))(k:SIn h s a)(f:SFit s)(l:List Ev)(p:SlOf h x 11 (l.map evC))(z:l.length<1048576):
  ACalls Tryz.prog 80 [.ptr d 0] h λr h'=>r= .tup []/\h'=h.set d (.box 154 (qN s a x c (jJ err (jc s q) 80) rows (if jJ err (jc s q) 80==0 then .sl 5 ((qA s l q.worker).1.map ve) else segs) bytes q)):=by
 refine zj Tryz.f80 [] 29 rfl rfl rfl rfl rfl rfl (by decide) (⟨_,_,⟨rfl,rfl⟩,qj i rfl⟩) λB=>?_
 simp only[go_sem]
 refine zh (yXa i k) ?_
 rintro _ D ⟨rfl,y⟩
 rw[y]
 simp only[go_sem]
 refine zh (Xh i (jc s q) 80) ?_
 rintro _ A ⟨rfl,rfl⟩
 have j:=zm (b:=Ob.box 154 (qN s a x c (jJ err (jc s q) 80) rows segs bytes q)) i
 have m:=p.keep (.setB (o:= .box 154 (qN s a x c (jJ err (jc s q) 80) rows segs bytes q)) i)
 have k2:SIn (h.set d (.box 154 (qN s a x c (jJ err (jc s q) 80) rows segs bytes q))) s a:=⟨k.w.keep (.setB i),k.e.keep (.setB i),k.c.keep (.setB i),k.g.keep (.setB i),k.r.keep (.setB i),k.t.keep (.setB i)⟩
 obtain⟨E,v⟩:∃E,E=jJ err (jc s q) 80:=⟨_,rfl⟩
 rw[<-v] at j m k2⊢
 simp only[go_sem]
 cases n:E==0
 ·simp only[go_sem,n]
  exact⟨_,rfl,.inl ⟨rfl,rfl⟩⟩
 ·simp only[go_sem,n]
  refine zQ rfl [] 0 [(0,0,[]),(1,0,[]),(2,0,[]),(3,0,[]),(4,0,[]),(6,0,[]),(7,0,[]),(8,0,[]),(9,0,[]),(11,0,[]),(12,0,[]),(13,0,[]),(14,0,[]),(5,0,[]),(10,0,[]),(15,0,[]),(16,0,[]),(17,0,[]),(18,0,[]),(19,0,[]),(20,0,[]),(21,0,[]),(22,0,[]),(23,0,[])] rfl (by decide) (by decide) ?_
  simp only[go_sem,j]
  refine zh (yQa _ s a k2 f x l q.worker m z) ?_
  rintro _ C ⟨rfl,u⟩
  rw[u]
  simp only[go_sem,j,qd]
  exact⟨_,rfl,.inl ⟨rfl,rfl⟩⟩
theorem SIn.keep(k:SIn h s a){h':List Ob}(r:RowsK h h'):SIn h' s a:=⟨k.w.keep r,k.e.keep r,k.c.keep r,k.g.keep r,k.r.keep r,k.t.keep r⟩
def yY(s:Setup)(err:Int)(q:Cm):Int:=jJ (jJ err (jc s q) 80) (kr q) 212
theorem jEb(i:h[d]? =some (.box 154 (qN s a x c err rows segs bytes q)))(k:SIn h s a)(f:SFit s)(l:List Ev)(C:SlOf h x 11 (l.map evC))(F:l.length<=1000):
  ACalls Tryz.prog 79 [.ptr d 0] h λr h'=>r= .tup []/\∃m L,h'=h.set d (.box 154 (qN s a x c (yY s err q) m segs bytes q))++L/\NoRes L/\
   ((yY s err q≠0/\m=rows/\L=[])∨(yY s err q=0/\m= .tl h.length 0/\L=[.row 45 27 [vf (qi s l q.worker q.week).1++[.sl 2 ((qi s l q.worker q.week).2.map xW)]] 0])):=by
 have hex:∃r h',(r=AV.tup []/\∃m L,h'=h.set d (.box 154 (qN s a x c (yY s err q) m segs bytes q))++L/\NoRes L/\
   ((yY s err q≠0/\m=rows/\L=[])∨(yY s err q=0/\m= .tl h.length 0/\L=[.row 45 27 [vf (qi s l q.worker q.week).1++[.sl 2 ((qi s l q.worker q.week).2.map xW)]] 0])))/\ResK h h':=by
  by_cases h0:yY s err q=0
  ·exact⟨_,_,⟨rfl,_,_,rfl,zD rfl,.inr ⟨h0,rfl,rfl⟩⟩,(qj i rfl).trans resK_app⟩
  ·exact⟨_,_,⟨rfl,_,[],rfl,jm,.inl ⟨h0,rfl,rfl⟩⟩,by rw[zM];exact qj i rfl⟩
 refine zj Tryz.f79 [] 36 rfl rfl rfl rfl rfl rfl (by decide) (hex) λB=>?_
 simp only[go_sem]
 refine zh (yXa i k) ?_
 rintro _ K ⟨rfl,A⟩
 rw[A]
 simp only[go_sem]
 refine zh (Xh i (jc s q) 80) ?_
 rintro _ y ⟨rfl,rfl⟩
 have n:=zm (b:=Ob.box 154 (qN s a x c (jJ err (jc s q) 80) rows segs bytes q)) i
 simp only[go_sem]
 refine zh (Kga n) ?_
 rintro _ y ⟨rfl,I⟩
 rw[I]
 simp only[go_sem]
 refine zh (Xh n (kr q) 212) ?_
 rintro _ y ⟨rfl,rfl⟩
 rw[qd]
 have D:jJ (jJ err (jc s q) 80) (kr q) 212=yY s err q:=rfl
 rw[D]
 have g:=zm (b:=Ob.box 154 (qN s a x c (yY s err q) rows segs bytes q)) i
 have j:=C.keep (.setB (o:= .box 154 (qN s a x c (yY s err q) rows segs bytes q)) i)
 have k3:=k.keep (.setB (o:= .box 154 (qN s a x c (yY s err q) rows segs bytes q)) i)
 have e:(h.set d (.box 154 (qN s a x c (yY s err q) rows segs bytes q))).length=h.length:=by rw[zJ]
 obtain⟨E,v⟩:∃E,E=yY s err q:=⟨_,rfl⟩
 rw[<-v] at g j k3 e⊢
 have p:∀o,(h.set d (.box 154 (qN s a x c E rows segs bytes q))).set d o=h.set d o:=λo=>qd _
 simp only[go_sem]
 cases u:E==0
 ·have h0:E≠0:=by simpa using u
  simp only[go_sem,u]
  exact⟨_,rfl,.inl ⟨rfl,rows,[],by rw[zM],jm,.inl ⟨h0,rfl,rfl⟩⟩⟩
 ·have h0:E=0:=by simpa using u
  simp only[go_sem,u]
  refine zQ rfl [.res] 1 [(0,0,[]),(1,0,[]),(2,0,[]),(3,0,[]),(4,0,[]),(6,0,[]),(7,0,[]),(8,0,[]),(9,0,[]),(11,0,[]),(12,0,[]),(13,0,[]),(14,0,[]),(16,0,[]),(17,0,[]),(18,0,[]),(19,0,[]),(5,0,[]),(10,0,[]),(15,0,[]),(20,0,[]),(21,0,[]),(22,0,[]),(23,0,[]),(24,0,[]),(25,0,[]),(26,0,[])] rfl (by decide) (by decide) ?_
  obtain⟨H,G⟩:∃H,H=h.set d (.box 154 (qN s a x c E rows segs bytes q)):=⟨_,rfl⟩
  rw[<-G] at g j k3 e p⊢
  have t:∀M,(H++M)[d]? =some (.box 154 (qN s a x c E rows segs bytes q)):=λM=>ze g
  have w:=(zd.1 g).1
  simp only[go_sem,t]
  refine zh (ztb _ s a (k3.app _) f x l q.worker q.week (j.app _) F) ?_
  rintro _ N ⟨rfl,z⟩
  rw[z]
  obtain⟨W,J⟩:∃W,W=qi s l q.worker q.week:=⟨_,rfl⟩
  rw[<-J]
  simp only[go_sem,t,vf,List.cons_append,List.nil_append]
  refine⟨.tup [],rfl,.inl ⟨rfl,.tl h.length 0,_,?_,zD rfl,.inr ⟨h0,rfl,rfl⟩⟩⟩
  rw[qt _ _ w,p,e]
theorem zEb(b:h[d]? =some (.box 154 (qN s a x c err rows segs bytes q)))(j:Nat)(e:h[j]? =some (.box 151 [.ptr d 0]))(n:Int):
  ACalls Tryz.prog 168 [i64 n,.ptr j 0] h λr h'=>r=bl (n==q.week)/\h'=h:=by
 refine zj Tryz.f168 [.tmp 3] 11 rfl rfl rfl rfl rfl rfl (by decide) (⟨_,_,⟨rfl,rfl⟩,.refl⟩) λB=>?_
 simp only[go_sem,b,e]
 refine zn ?_<;>(simp only[go_sem]<;>try rfl)
end
structure Bk where
 evs:List Ev
 shut:List Int
structure An where
 err:Int
 rows:List (RowV × List Flg)
 segs:List Seg
 bytes:List Int
def wt(e:Int):An:=⟨e,[],[],[]⟩
def WL(l:List Ev)(id:Int):List Ev:=l.eraseP λe=>e.id==id
def wP(l:List Ev)(x:Fx):List Ev:=(if xb x then WL l x.ev.id else l)++if xU x then [x.ev] else []
def jw(s:Setup)(l:List Ev)(x:Fx):List Ev × Int:=
 if(!xU x && !xb x) || (xU x && !vI s x.ev) then([],80)
 else if !xb x && decide (Jk l x.ev.id≥0) then([],130)
 else if xb x && decide (Jk l x.ev.id<0) then([],131)
 else(qu (wP l x),0)
def ltK(a b:Int × Int):Bool:=decide (a.1<b.1) || (a.1==b.1 && decide (a.2<b.2))
theorem xF{a b:Int × Int}:ltK a b=true↔a.1<b.1∨(a.1=b.1/\a.2<b.2):=by simp[ltK]
def Jp(a b:Int):List Int:=(List.range (b - a+1).toNat).map λ(i:Nat)=>a+(i:Int)
theorem Kw{a b x:Int}:x∈Jp a b↔a<=x/\x<=b:=by
 unfold Jp
 rw[zt]
 constructor
 ·rintro ⟨i,hi,rfl⟩
  rw[qW] at hi
  omega
 ·rintro ⟨d,c⟩
  exact⟨(x - a).toNat,by rw[qW];omega,by omega⟩
def yj(s:Setup)(e:Ev):List (Int × Int):=(Jp (yh s e.at_).1 (yh s e.at_).2).map λk=>(e.worker,k)
theorem Wb{s:Setup}{e:Ev}{k:Int × Int}:k∈yj s e↔k.1=e.worker/\(yh s e.at_).1<=k.2/\k.2<=(yh s e.at_).2:=by
 unfold yj
 rw[zt]
 constructor
 ·rintro ⟨i,hi,rfl⟩
  exact⟨rfl,Kw.1 hi⟩
 ·rintro ⟨b,a⟩
  exact⟨k.2,Kw.2 a,by rw[<-b]⟩
def ZR(s:Setup)(l:List Ev)(x:Fx):List (Int × Int):=(if(Qa l x.ev.id).2 && xb x then yj s (Qa l x.ev.id).1 else [])++if xU x then yj s x.ev else []
def j7a(k:Int × Int):List (Int × Int)->List (Int × Int)
 | []=>[k]
 | y::r=>if ltK k y then k::y::r else if k=y then y::r else y::j7a k r
def Kia(l:List (Int × Int)):List (Int × Int):=l.foldr j7a []
def jp(s:Setup)(l:List Ev)(x:Fx):List (Int × Int):=Kia (ZR s l x)
theorem zIa{k z:Int × Int}:∀ {l:List (Int × Int)},z∈j7a k l↔z=k∨z∈l
 | []=>by simp[j7a]
 | y::r=>by
   unfold j7a
   split
   ·simp
   ·split
    ·rename_i h
     subst h
     simp
    ·rw[zy,zIa (l:=r),zy]
     constructor<;>(rintro (h|h|h)<;>simp[h])
theorem ZS{z:Int × Int}:∀ {l:List (Int × Int)},z∈Kia l↔z∈l
 | []=>Iff.rfl
 | k::l=>by
   show z∈j7a k (Kia l)↔_
   rw[zIa,ZS (l:=l),zy]
theorem kZa{k:Int × Int}:∀ {l:List (Int × Int)},l.Pairwise (λa b=>ltK a b=true)->(j7a k l).Pairwise λa b=>ltK a b=true
 | [],_=>by simp[j7a]
 | y::r,h=>by
   obtain⟨g,i⟩:=zR.1 h
   unfold j7a
   split
   ·rename_i d
    refine zR.2 ⟨λz c=>?_,h⟩
    rcases zy.1 c with rfl|c
    ·exact d
    ·have:=g z c
     rw[xF] at*
     omega
   ·split
    ·exact h
    ·rename_i d e
     refine zR.2 ⟨λz c=>?_,kZa i⟩
     rcases zIa.1 c with rfl|c
     ·rw[Bool.not_eq_true] at d
      have:¬ (z.1<y.1∨(z.1=y.1/\z.2<y.2)):=λq=>by rw[xF.2 q] at d;cases d
      rw[xF]
      have f:¬ (z.1=y.1/\z.2=y.2):=λq=>e (Prod.ext q.1 q.2)
      omega
     ·exact g z c
theorem Vm:∀(l:List (Int × Int)),(Kia l).Pairwise λa b=>ltK a b=true
 | []=> .nil
 | k::l=>kZa (Vm l)
theorem yZa:∀ {a b:List (Int × Int)},a.Pairwise (λx y=>ltK x y=true)->b.Pairwise (λx y=>ltK x y=true)->(∀z,z∈a↔z∈b)->a=b
 | [],[],_,_,_=>rfl
 | [],y::b,_,_,h=>by have:=(h y).2 (.head _);cases this
 | x::a,[],_,_,h=>by have:=(h x).1 (.head _);cases this
 | x::a,y::b,j,i,h=>by
   obtain⟨a1,a2⟩:=zR.1 j
   obtain⟨b1,b2⟩:=zR.1 i
   have e:x=y:=by
    rcases zy.1 ((h x).1 (.head _)) with q|q
    ·exact q
    ·rcases zy.1 ((h y).2 (.head _)) with f|f
     ·exact f.symm
     ·have:=b1 x q
      have:=a1 y f
      rw[xF] at*
      omega
   subst e
   congr 1
   refine yZa a2 b2 λz=>?_
   have c:∀ {l:List (Int × Int)},(∀y∈l,ltK x y=true)->x∉l:=λk g=>by
    have:=k x g
    rw[xF] at this
    omega
   constructor
   ·intro d
    rcases zy.1 ((h z).1 (.tail _ d)) with rfl|q
    ·exact absurd d (c a1)
    ·exact q
   ·intro d
    rcases zy.1 ((h z).2 (.tail _ d)) with rfl|q
    ·exact absurd d (c b1)
    ·exact q
def Xk(n:Int):List Int->List Int
 | []=>[n]
 | y::r=>if n<=y then n::y::r else y::Xk n r
def jt(l:List Int)(w:Int):Bool:=l.any (w== ·)
theorem QN{l:List Int}{w:Int}:jt l w=true↔w∈l:=by
 unfold jt
 rw[List.any_eq_true]
 constructor
 ·rintro ⟨x,b,a⟩
  rw[beq_iff_eq] at a
  subst a
  exact b
 ·intro h
  exact⟨w,h,by simp⟩
def QO(s:Setup)(b:Bk)(x:Fx):Int:=
 jJ (jJ (jJ 0 ((jw s b.evs x).2==0) (jw s b.evs x).2) (decide (((jw s b.evs x).1.length:Int)<=200)) 210) (!(jp s b.evs x).any λk=>jt b.shut k.2) 211
def XS(s:Setup)(b:Bk)(x:Fx):Bk × An:=(if QO s b x==0 then⟨(jw s b.evs x).1,b.shut⟩ else b,wt (QO s b x))
def xf(s:Setup)(b:Bk)(wk:Int):List (RowV × List Flg):=(List.range s.rates.length).map λ(w:Nat)=>qi s b.evs (w:Int) wk
def doP(s:Setup)(b:Bk)(q:Cm):Bk × An:=
 if q.kind=1 then XS s b ⟨1,q.fx.ev⟩
 else if q.kind=2 then XS s b q.fx
 else if q.kind=3 then(b,if yY s 0 q==0 then⟨0,[qi s b.evs q.worker q.week],[],[]⟩ else wt (yY s 0 q))
 else if q.kind=4 then(b,if jc s q then⟨0,[],(qA s b.evs q.worker).1,[]⟩ else wt 80)
 else if q.kind=5 then(if kr q && !jt b.shut q.week then(⟨b.evs,Xk q.week b.shut⟩,wt 0) else(b,wt 212))
 else if q.kind=6 then(if jt b.shut q.week then(⟨b.evs,b.shut.filter λw=> !(w==q.week)⟩,wt 0) else(b,wt 212))
 else if q.kind=7 then(b,if jt b.shut q.week then⟨0,xf s b q.week,[],(jY (xf s b q.week)).1⟩ else wt 212)
 else if q.kind=8 then(b,wt 0)
 else(b,wt 240)
structure BkI (s:Setup) (b:Bk):Prop where
 few:b.evs.length<=200
 srt:Srt b.evs
 ids:(b.evs.map (·.id)).Nodup
 ok:∀e∈b.evs,vI s e=true
 rise:b.shut.Pairwise (· < ·)
 rng:∀w∈b.shut,0<=w/\w<=52
theorem zJa{e:Int}{c:Bool}{d:Int}(b:d≠0):jJ e c d=0↔e=0/\c=true:=by
 unfold jJ
 cases c
 ·by_cases a:e=0
  ·subst a;simp[b]
  ·have:(e==0)=false:=by simpa using a
   simp[this,a]
 ·simp
theorem zKa{n z:Int}:∀ {l:List Int},z∈Xk n l↔z=n∨z∈l
 | []=>by simp[Xk]
 | y::r=>by
   unfold Xk
   split
   ·simp
   ·rw[zy,zKa (l:=r),zy]
    constructor<;>(rintro (h|h|h)<;>simp[h])
theorem Wc{n:Int}:∀ {l:List Int},n∉l->l.Pairwise (· < ·)->(Xk n l).Pairwise (· < ·)
 | [],_,_=>by simp[Xk]
 | y::r,b,h=>by
   obtain⟨c,d⟩:=zR.1 h
   have e:n≠y:=λq=>b (by rw[q];exact .head _)
   unfold Xk
   split
   ·refine zR.2 ⟨λz a=>?_,h⟩
    rcases zy.1 a with rfl|a
    ·omega
    ·have:=c z a;omega
   ·refine zR.2 ⟨λz a=>?_,Wc (λq=>b (.tail _ q)) d⟩
    rcases zKa.1 a with rfl|a
    ·omega
    ·exact c z a
theorem q8a(n:Int):∀l:List Int,(Xk n l).Perm (n::l)
 | []=> .refl _
 | y::r=>by
   unfold Xk
   split
   ·exact .refl _
   ·exact(List.Perm.cons y (q8a n r)).trans (List.Perm.swap n y r)
theorem QP{s:Setup}{l:List Ev}{x:Fx}(h:(jw s l x).2=0):jw s l x=(qu (wP l x),0)/\(xU x=true∨xb x=true)/\(xU x=true->vI s x.ev=true)/\
  ((xb x=false/\xU x=true/\∀e∈l,e.id≠x.ev.id)∨(xb x=true/\∃A y R,l=A++y::R/\Qa l x.ev.id=(y,true)/\y.id=x.ev.id/\WL l x.ev.id=A++R/\Jk l x.ev.id=(A.length:Int))):=by
 unfold jw at h⊢
 split at h
 ·cases h
 ·rename_i v
  split at h
  ·cases h
  ·rename_i k
   split at h
   ·cases h
   ·rename_i m
    rw[if_neg v,if_neg k,if_neg m]
    have g:¬ (xU x=false/\xb x=false)/\¬ (xU x=true/\vI s x.ev=false):=by
     cases c:xU x<;>cases b:xb x<;>cases i:vI s x.ev<;>simp_all
    refine⟨rfl,?_,?_,?_⟩
    ·cases c:xU x<;>cases b:xb x<;>simp_all
    ·intro c
     cases i:vI s x.ev
     ·exact absurd ⟨c,i⟩ g.2
     ·rfl
    ·have c:xb x=false->xU x=true:=λb=>by
      cases c:xU x
      ·exact absurd ⟨c,b⟩ g.1
      ·rfl
     cases b:xb x
     ·refine .inl ⟨rfl,c b,?_⟩
      rw[b] at k
      have k:¬ (0:Int)<=Jk l x.ev.id:=by simpa using k
      rcases V6 l x.ev.id with⟨_,d⟩|⟨A,y,R,_,d,_⟩
      ·intro e i hid
       unfold Qa at d
       cases q:l.find? (λe=>e.id==x.ev.id) with
       | none=>have:=List.find?_eq_none.1 q e i;simp[hid] at this
       | some z=>rw[q] at d;cases d
      ·omega
     ·refine .inr ⟨rfl,?_⟩
      rw[b] at m
      have m:¬ Jk l x.ev.id<0:=by simpa using m
      rcases V6 l x.ev.id with⟨n,_⟩|⟨A,y,R,n,d,u,p⟩
      ·omega
      ·refine⟨A,y,R,n,u,p,?_,d⟩
       have w:∀a∈A,(a.id==x.ev.id)=false:=λa o=>by
        rcases J9 (λe=>e.id==x.ev.id) l with⟨j,_⟩|⟨t,y',B,j,r,z3,z4⟩
        ·have j:Jk l x.ev.id= -1:=j
         omega
        ·have r:Jk l x.ev.id=(t.length:Int):=r
         have f:A.length=t.length:=by omega
         have:=List.append_inj_left (n.symm.trans j) f
         subst this
         exact z4 a o
       unfold WL
       rw[n,List.eraseP_append_right _ (λa o=>by simp[w a o]),List.eraseP_cons_of_pos (by simp[p])]
theorem Kja{l A R:List Ev}{y e:Ev}(h:l=A++y::R)(a:e∈A++R):e∈l:=by
 subst h
 rcases zI.1 a with a|a
 ·exact List.mem_append_left _ a
 ·exact List.mem_append_right _ (.tail _ a)
theorem wMa{l A R:List Ev}{y:Ev}(h:l=A++y::R)(c:(l.map (·.id)).Nodup):((A++R).map (·.id)).Nodup/\∀e∈A++R,e.id≠y.id:=by
 subst h
 have a:((y::(A++R)).map (·.id)).Nodup:=(List.Perm.nodup_iff (List.Perm.map _ List.perm_middle)).1 c
 rw[List.map_cons,List.nodup_cons] at a
 exact⟨a.2,λe b q=>a.1 (zt.2 ⟨e,b,q⟩)⟩
theorem k0a{s:Setup}{l:List Ev}{x:Fx}(h:(jw s l x).2=0)(f:(l.map (·.id)).Nodup)(i:∀e∈l,vI s e=true):((wP l x).map (·.id)).Nodup/\∀e∈wP l x,vI s e=true:=by
 obtain⟨_,_,o,p⟩:=QP h
 have key:∀K:List Ev,(K.map (·.id)).Nodup->(∀e∈K,vI s e=true)->(∀e∈K,e.id≠x.ev.id)->((K++if xU x then [x.ev] else []).map (·.id)).Nodup/\∀e∈K++(if xU x then [x.ev] else []),vI s e=true:=λK k1 k2 k3=>by
  cases k:xU x
  ·simpa using ⟨k1,k2⟩
  ·simp only[if_true]
   refine⟨?_,λe c=>?_⟩
   ·rw[zw,List.nodup_append]
    refine⟨k1,by simp,λa q b g=>?_⟩
    obtain⟨e,c,rfl⟩:=zt.1 q
    simp at g
    subst g
    exact k3 e c
   ·rcases zI.1 c with c|c
    ·exact k2 e c
    ·rw[zW] at c
     subst c
     exact o k
 unfold wP
 rcases p with⟨d,k,hid⟩|⟨d,A,y,R,j,r,n,m,_⟩
 ·rw[d]
  exact key l f i hid
 ·rw[d]
  simp only[if_true]
  rw[m]
  obtain⟨n1,n2⟩:=wMa j f
  exact key _ n1 (λe c=>i e (Kja j c)) λe c=>by rw[<-n];exact n2 e c
theorem Wd{s:Setup}{b:Bk}{x:Fx}:QO s b x=0↔(jw s b.evs x).2=0/\(jw s b.evs x).1.length<=200/\∀k∈jp s b.evs x,k.2∉b.shut:=by
 unfold QO
 rw[zJa (by decide),zJa (by decide)]
 have e:jJ 0 ((jw s b.evs x).2==0) (jw s b.evs x).2=(jw s b.evs x).2:=by
  unfold jJ
  by_cases h:(jw s b.evs x).2=0
  ·simp[h]
  ·have:((jw s b.evs x).2==0)=false:=by simpa using h
   simp[this]
 rw[e,decide_eq_true_eq,Bool.not_eq_true',List.any_eq_false]
 constructor
 ·rintro ⟨⟨d,f⟩,a⟩
  exact⟨d,by omega,λk c q=>a k c (QN.2 q)⟩
 ·rintro ⟨d,f,a⟩
  exact⟨⟨d,by omega⟩,λk c q=>a k c (QN.1 q)⟩
theorem k1a{s:Setup}{b:Bk}{x:Fx}(h:BkI s b):BkI s (XS s b x).1:=by
 unfold XS
 by_cases h0:QO s b x=0
 ·obtain⟨c,a,i⟩:=Wd.1 h0
  simp only[h0,beq_self_eq_true,if_true]
  obtain⟨g,_⟩:=QP c
  obtain⟨n1,n2⟩:=k0a c h.ids h.ok
  have d:=xK (wP b.evs x)
  rw[g] at a⊢
  exact⟨a,xY _,(List.Perm.nodup_iff (List.Perm.map _ d)).2 n1,λe f=>n2 e (d.mem_iff.1 f),h.rise,h.rng⟩
 ·have:(QO s b x==0)=false:=by simpa using h0
  simp only[this,Bool.false_eq_true,if_false]
  exact h
theorem QQ{q:Cm}:kr q=true↔0<=q.week/\q.week<=52:=by
 unfold kr
 simp
theorem j8a{s:Setup}{b:Bk}(q:Cm)(h:BkI s b):BkI s (doP s b q).1:=by
 unfold doP
 split
 ·exact k1a h
 ·split
  ·exact k1a h
  ·split
   ·exact h
   ·split
    ·exact h
    ·split
     ·split
      ·rename_i c
       rw[zq,Bool.not_eq_true'] at c
       have e:=QQ.1 c.1
       have d:q.week∉b.shut:=λf=>by rw[QN.2 f] at c;cases c.2
       exact⟨h.few,h.srt,h.ids,h.ok,Wc d h.rise,λw a=>by
        rcases zKa.1 a with rfl|a
        ·exact e
        ·exact h.rng w a⟩
      ·exact h
     ·split
      ·split
       ·exact⟨h.few,h.srt,h.ids,h.ok,h.rise.filter _,λw e=>h.rng w (zL.1 e).1⟩
       ·exact h
      ·split
       ·exact h
       ·split
        ·exact h
        ·exact h
def Kx:Bk:=⟨[],[]⟩
theorem QIa(s:Setup):BkI s Kx:=⟨by decide,trivial,.nil,λ_ h=>(by cases h),.nil,λ_ h=>by cases h⟩
theorem QJa{A R:List Ev}{y:Ev}:(A++y::R).Perm (y::(A++R)):=List.perm_middle
theorem Wra{s:Setup}{b:Bk}{x:Fx}(hi:BkI s b)(h:(jw s b.evs x).2=0){w wk:Int}(o:(w,wk)∉ZR s b.evs x):qi s (qu (wP b.evs x)) w wk=qi s b.evs w wk:=by
 obtain⟨_,_,v,B⟩:=QP h
 obtain⟨n1,n2⟩:=k0a h hi.ids hi.ok
 have d:∀e:Ev,vI s e=true->(w,wk)∉yj s e->e.worker=w->vI s e=true->z6 s=true->Out s e.at_ wk:=λe m k r _ u=>
  zxb u (wM (yA m)).2.2.2.1 λq=>k (Wb.2 ⟨r.symm,q⟩)
 have f:xU x=true->(w,wk)∉yj s x.ev:=λi q=>o (List.mem_append_right _ (by rw[i];exact q))
 have i:=xK (wP b.evs x)
 rw[V9 i ((List.Perm.nodup_iff (List.Perm.map _ i)).2 n1)]
 have more:∀K:List Ev,((K++if xU x then [x.ev] else []).map (·.id)).Nodup->qi s (K++if xU x then [x.ev] else []) w wk=qi s K w wk:=λK j=>by
  cases c:xU x
  ·simp
  ·rw[c] at j
   simp only[if_true] at j⊢
   have a:(K++[x.ev]).Perm (x.ev::K):=List.perm_append_comm
   rw[V9 a j]
   exact q5a ((List.Perm.nodup_iff (List.Perm.map _ a)).1 j) (d x.ev (v c) (f c))
 unfold wP at n1⊢
 rcases B with⟨g,c,hid⟩|⟨g,A,y,R,p,z,C,t,_⟩
 ·rw[g] at n1⊢
  simp only[Bool.false_eq_true,if_false] at n1⊢
  exact more _ n1
 ·rw[g] at n1⊢
  simp only[if_true] at n1⊢
  rw[more _ n1,t]
  have a:b.evs.Perm (y::(A++R)):=by rw[p];exact QJa
  rw[V9 (l:=b.evs) a hi.ids]
  have n:(w,wk)∉yj s y:=λq=>o (List.mem_append_left _ (by rw[z,g];exact q))
  exact(q5a ((List.Perm.nodup_iff (List.Perm.map _ a)).1 hi.ids) (d y (hi.ok y (by rw[p];simp)) n)).symm
theorem Kka{s:Setup}{b:Bk}{x:Fx}(hi:BkI s b){w wk:Int}(c:QO s b x=0->(w,wk)∉jp s b.evs x):qi s (XS s b x).1.evs w wk=qi s b.evs w wk:=by
 unfold XS
 by_cases h0:QO s b x=0
 ·obtain⟨a,_⟩:=Wd.1 h0
  simp only[h0,beq_self_eq_true,if_true]
  rw[(QP a).1]
  exact Wra hi a λq=>c h0 (ZS.2 q)
 ·have:(QO s b x==0)=false:=by simpa using h0
  simp only[this,Bool.false_eq_true,if_false]
open Go.RowKit
theorem k2a{c:Ctx}:∀ {vs us:List Value},ARs c (vs.map .v) us->us=vs
 | [],_,h=>h
 | v::vs,_,⟨u,r,b,a,d⟩=>by
   have a:u=v:=a
   rw[b,a,k2a d]
def Wsa(e:Ev):List Value:=[.int .i64 e.id,.int .i64 e.worker,.int .i64 e.at_,.int .i64 e.kind,.int .i64 e.from_,.int .i64 e.to_,.int .i64 e.element,.int .i64 e.units,.int .i64 e.class_,.int .i64 e.gear,.int .i64 e.code]
def ww(l:List Ev):List Value:=(l.map Wsa).flatten
theorem XJ:∀l:List Ev,(ww l).length=l.length*11
 | []=>rfl
 | e::l=>by
   have:=XJ l
   unfold ww at*
   rw[List.map_cons,List.flatten_cons,zg,this,List.length_cons]
   show 11+_=_
   omega
theorem We(a b:List Ev):ww (a++b)=ww a++ww b:=by unfold ww;rw[zw,List.flatten_append]
theorem zLa:∀l:List Ev,(l.map evC).flatten=(ww l).map .v
 | []=>rfl
 | e::l=>by
   have:=zLa l
   unfold ww at*
   rw[List.map_cons,List.map_cons,List.flatten_cons,List.flatten_cons,zw,this]
   rfl
theorem QKa(l:List Ev):∀v∈ww l,v.oneCell'=true:=λv a=>by
 unfold ww at a
 obtain⟨L,b,a⟩:=List.mem_flatten.1 a
 obtain⟨e,_,rfl⟩:=zt.1 b
 unfold Wsa at a
 simp only[zy,List.not_mem_nil,or_false] at a
 rcases a with rfl|rfl|rfl|rfl|rfl|rfl|rfl|rfl|rfl|rfl|rfl<;>rfl
theorem jFb:∃z,(∀w,(zeroValue 75).run Tryz.prog w= .ok z w)/\z.cells.size=11/\∀u∈z.cells.toList,u.oneCell'=true:=
 ⟨_,Tryz.zeroValue75,rfl,λu a=>by
  simp[Value.cells] at a
  rw[a]
  rfl⟩
theorem jGb:∃i,Tryz.prog.info? 75=some i/\i.size=11:=by
 have h:(Tryz.prog.info? 75).map (λi=>i.size)=some 11:=by kernel_rfl
 cases hi:Tryz.prog.info? 75 with
 | none=>rw[hi] at h;cases h
 | some i=>
   rw[hi] at h
   injection h with h
   exact⟨i,rfl,h⟩
theorem jHb(h:List Ob)(id st:Nat)(P:List Ev)(y:Ev)(R:List Ev)(X:h[id]? =some (jh (P++y::R) st)):
  ACalls Tryz.prog 221 [.tl id st,i64 P.length,i64 ((P.length:Int)+1)] h λr h'=>r= .tl id (st+1)/\h'=h.set id (jh (P++R) (st+1)):=by
 refine⟨by kernel_rfl,⟨_,_,⟨rfl,rfl⟩,qj X rfl⟩,λφ I B w g vs hh hB d=>?_⟩
 have m:=qL (φ:=φ) X rfl
 obtain⟨v1,r1,rfl,h1,v2,r2,rfl,h2,v3,r3,rfl,h3,Z⟩:=d
 have Z:r3=[]:=Z
 have h2:v2= .int .i64 (P.length:Int):=h2
 have h3:v3= .int .i64 ((P.length:Int)+1):=h3
 have T:=Qh h1 m
 subst Z h2 h3 T
 obtain⟨_,_,cells,q2,W⟩:=hh.ok _ _ m
 rw[zLa] at W
 have W:=k2a W
 subst W
 obtain⟨n,hn⟩:∃n,n=(P++y::R).length:=⟨_,rfl⟩
 have χ:n=P.length+1+R.length:=by rw[hn];simp;omega
 have e0:((P++y::R).map evC).length=n:=by rw[zb,hn]
 rw[e0] at q2
 rcases q2.2 with⟨_,L⟩|⟨a,cap,cur,L,e2,e3,e4,e5,e6,e7⟩
 ·omega
 ·have L:g.cur id= .slice (some ⟨a,0,none⟩) n cap:=L
  obtain⟨j,hj⟩:∃j,j=P.length+1:=⟨_,rfl⟩
  have o:ww (P++y::R)=ww P++Wsa y++ww R:=by
   rw[show P++y::R=P++[y]++R by simp,We,We]
   congr 2
  have l1:=XJ P
  have l2:=XJ R
  have ly:(Wsa y).length=11:=rfl
  have υ:n*11<=cur.size:=by rw[e6];exact Nat.mul_le_mul_right _ e4
  have C:cur.toList.take (P.length*11)=ww P:=by
   have:cur.toList.take (P.length*11)=(cur.toList.take (n*11)).take (P.length*11):=by rw[List.take_take,Nat.min_eq_left (by omega)]
   rw[this,e7,o,zr,qE (by omega),List.take_of_length_le (by omega)]
  have F:(cur.toList.drop (j*11)).take (R.length*11)=ww R:=by
   have:(cur.toList.drop (j*11)).take (R.length*11)=(cur.toList.take (n*11)).drop (j*11):=by
    rw[List.drop_take]
    congr 1
    omega
   rw[this,e7,o,List.drop_append_of_le_length (by rw[zg];omega),List.drop_of_length_le (by rw[zg];omega),List.nil_append]
  have U:w.drew.heap[a]? =some (.cells cur 75 (0,0)):=e3
  obtain⟨A,hA,O⟩:∃A:Addr,(if cap=j then(some ⟨a,0,none⟩:Option Addr) else some ⟨a,j*11,none⟩)=some A/\∀k u,(ww R)[k]? =some u->w.drew.cell? (A.add k)=some u:=by
   by_cases hc:cap=j
   ·refine⟨_,by rw[if_pos hc],λk u I=>?_⟩
    have:(ww R).length=0:=by omega
    rw[zF this] at I
    cases I
   ·refine⟨_,by rw[if_neg hc],λk u I=>?_⟩
    have hk:=(zd.1 I).1
    rw[<-F,qZ,if_pos (by omega),List.getElem?_drop,qC] at I
    rw[Addr.add_lit]
    unfold World.cell?
    rw[U]
    exact I
  obtain⟨ii,ε,H⟩:=jGb
  obtain⟨z,z1,z2,z3⟩:=jFb
  have i:=WP (P:=Tryz.prog) w.drew 31 31 75 ii Tryz.underlying31 ε a _ cur U P.length cap A (n - j) (cap - j) (ww R) (by rw[H];omega) O (QKa R) (by omega) (by rw[H];omega)
  rw[H] at i
  obtain⟨c,D⟩:∃c,c=JG cur (P.length*11) (ww R):=⟨_,rfl⟩
  rw[<-D] at i
  have f:c.size=cur.size:=by rw[D,Yc (by omega)]
  have M:=setRow_heap w.drew a cur c _ _ U
  have S:∀ty,(Builtin.clear_ #[31] ty #[.slice (some ⟨a,(P.length+(n - j))*11,none⟩) (n - (P.length+(n - j))) (cap - (P.length+(n - j)))]).run Tryz.prog (w.drew.setRow a c)= .ok (.tuple #[]) ((w.drew.setRow a c).setRow a (JG c ((P.length+(n - j))*11) z.cells.toList)):=λty=>by
   have:=Yd (P:=Tryz.prog) (w.drew.setRow a c) 31 ty 75 z Tryz.underlying31 z1 a _ c M ((P.length+(n - j))*11) (cap - (P.length+(n - j))) z3 (by rw[z2,f];omega)
   rw[show n - (P.length+(n - j))=1 by omega]
   exact this
  have p:=xhb a cap P.length j n cur w e3 e4 e5 (by rw[e6]) hj.symm (by omega) A hA _ _ i S
  obtain⟨v,G⟩:∃v,v=JG c ((P.length+(n - j))*11) z.cells.toList:=⟨_,rfl⟩
  rw[<-G] at p
  have Y:z.cells.toList.length=11:=by rw[qF];exact z2
  have N:v.size=cur.size:=by rw[G,Yc (by rw[Y,f];omega),f]
  have β:=setRow_heap (w.drew.setRow a c) a c v _ _ M
  have hm:P.length+(n - j)=(P++R).length:=by rw[zg];omega
  have Q:v.toList.take ((P++R).length*11)=ww (P++R):=by
   rw[G, <-hm]
   unfold JG
   rw[zr,qE (by have hq:c.toList.length=c.size:=qF;rw[zH];omega),List.take_take,Nat.min_self,D]
   unfold JG
   rw[C,qE (by rw[zg];omega),List.take_of_length_le (by rw[zg];omega),We]
  have d: #[g.cur id,.int .i64 (P.length:Int),.int .i64 ((P.length:Int)+1)]= #[.slice (some ⟨a,0,none⟩) n cap,.int .i64 (P.length:Int),.int .i64 (j:Int)]:=by
   rw[L,hj]
   simp
  have E:(Array.mk [g.cur id,Value.int .i64 (P.length:Int),Value.int .i64 ((P.length:Int)+1)])= #[.slice (some ⟨a,0,none⟩) n cap,.int .i64 (P.length:Int),.int .i64 (j:Int)]:=d
  show Calls Tryz.prog _ (Array.mk [g.cur id,Value.int .i64 (P.length:Int),Value.int .i64 ((P.length:Int)+1)]) w _
  rw[E]
  refine p.mono ?_
  rintro e w' ⟨rfl,rfl⟩
  have J:w.grownBy ((w.drew.setRow a c).setRow a v) (some a):=by
   refine⟨rfl,rfl,rfl,by simp,λk hk l=>?_⟩
   have l:k≠a:=λq=>l (by rw[q])
   rw[setRow_other _ _ _ _ l,setRow_other _ _ _ _ l]
   rfl
  have K:=Zv (w':=(w.drew.setRow a c).setRow a v) (xs':=(P++R).map evC) (v':= .slice (some ⟨a,0,none⟩) (P.length+(n - j)) cap) (cells:=ww (P++R)) (st':=st+1) hh hB m (λx hx=>by
   obtain⟨e,_,rfl⟩:=zt.1 hx;rfl) (by rw[L];exact J) (by
   rw[zb,hm]
   exact⟨XJ _,.inr ⟨a,cap,v,rfl,e2,β,by omega,e5,by rw[N,e6],Q⟩⟩) (by rw[zLa];exact JI _) (.inr (Nat.lt_succ_self st)) (λb U=> .inl (by rw[L];exact U))
  have V:=(zd.1 m).1
  have τ:=(zd.1 X).1
  refine⟨_,_,_,_,rfl,⟨rfl,rfl⟩,qj X rfl,by rw[ji rfl];exact K,⟨_,_,_,rfl⟩,⟨_,by rw[ji rfl,zo V],rfl⟩,λs t=>?_⟩
  have t:Ob.tok (fill φ (h.set id (jh (P++R) (st+1))))[id]? =some s:=t
  rw[ji rfl,zo V] at t
  have t:some (st+1)=some s:=t
  injection t with t
  subst t
  exact⟨zp _,λ_=>by simp[ctx]⟩
end Go.Proofs.YtigdlmpjijhpaaaGreat.Ax
namespace Go.Proofs.YtigdlmpjijhpaaaGreat.Ax
open Go Go.Proofs
set_option maxRecDepth 100000
abbrev AH(h:List Ob)(s:Setup)(a:SA)(q:Fx):List Ob:=h++[.box 30 (qg s a),.box 77 (fxC q)]
structure ApI (h:List Ob) (q:Fx) (at_:Int) (rows:List Ev) (T:Env) (h':List Ob):Prop where
 pre:Pre h h'
 b1:h'[h.length+1]? =some (.box 77 (fxC q))
 own:OwnS h h' 75 11 (T 11) (rows.map evC)
 t5:T 5= .ptr (h.length+1) 0
 t8:T 8=bl (xU q)
 t9:T 9=bl (xb q)
 t10:T 10=i64 at_
theorem Wta(h:List Ob)(s:Setup)(a:SA)(k:SIn h s a)(x:AV)(l:List Ev)(q:Fx)(hx:SlOf h x 11 (l.map evC))(hl:l.length<524288):
  ACalls Tryz.prog 161 [jg s a,x,.ag (fxC q)] h λr h'=>∃L y,h'=h++L/\NoRes L/\r= .tup [y,i64 (jw s l q).2]/\New h 11 y ((jw s l q).1.map evC) L:=by
 have hex:∃r h',(∃L y,h'=h++L/\NoRes L/\r=AV.tup [y,i64 (jw s l q).2]/\New h 11 y ((jw s l q).1.map evC) L)/\ResK h h':=
  ⟨_,_,⟨[],.sl 11 _,rfl,jm,rfl,λ_ _=>⟨rfl,λ_=>rfl⟩⟩,resK_app⟩
 refine jM (N:=67) (rs:=[.tmp 6,.tmp 7]) (fn:=Tryz.f161) rfl rfl rfl rfl (qp rfl) rfl (hex) λB=>?_
 refine qG (by decide) ?_
 simp only[go_sem,k.ones]
 have b0:(AH h s a q)[h.length]? =some (.box 30 (qg s a)):=by rw[zK rfl];rfl
 have b1:(AH h s a q)[h.length+1]? =some (.box 77 (fxC q)):=by rw[zG (k:=1) rfl];rfl
 have F:SlOf (AH h s a q) x 11 (l.map evC):=hx.app _
 have U:SIn (AH h s a q) s a:=k.app _
 refine jR (qG (by decide) ?_)
 refine zQ rfl [] 0 [(0,0,[]),(2,0,[]),(1,0,[2]),(3,0,[]),(4,0,[]),(5,0,[])] rfl (by decide) (by decide) ?_
 simp only[go_sem,b1]
 refine zh (Yva q _) ?_
 rintro _ p ⟨rfl,rfl⟩
 simp only[go_sem,b1]
 refine zh (X4a q _) ?_
 rintro _ p ⟨rfl,rfl⟩
 simp only[go_sem,b1]
 refine jR (qG (by decide) ?_)
 simp only[go_sem,b1]
 refine zh (jxb _ x l q.ev.id F (by omega)) ?_
 rintro _ p ⟨rfl,rfl⟩
 simp only[go_sem]
 have E:NoRes [Ob.box 30 (qg s a),.box 77 (fxC q)]:=zl rfl (zD rfl)
 have err:∀e:Int,jw s l q=([],e)->∃L y,AH h s a q=h++L/\NoRes L/\AV.tup [.v (.slice none 0 0),i64 e]= .tup [y,i64 (jw s l q).2]/\New h 11 y ((jw s l q).1.map evC) L:=λe g=>by
  rw[g]
  exact⟨_,_,rfl,E,rfl,λ_ _=>⟨rfl,λq=>absurd rfl q⟩⟩
 refine jR (xo (λT h'=>h'=AH h s a q/\(jw s l q).2=0/\T 1=x/\T 5= .ptr (h.length+1) 0/\T 8=bl (xU q)/\T 9=bl (xb q)/\T 10=i64 (Jk l q.ev.id)) (by decide) ?_ ?_)
 ·cases c:xU q<;>cases b:xb q
  ·simp only[go_sem,qv,Bool.not_false,Bool.not_true]
   exact⟨_,by simp only[go_sem],.inl (err 80 (by unfold jw;rw[if_pos (by simp[c,b])]))⟩
  ·cases f:decide (Jk l q.ev.id<0)
   ·simp only[go_sem,qv,Bool.not_false,Bool.not_true,f]
    unfold jw
    rw[if_neg (by simp[c,b]),if_neg (by simp[b]),if_neg (by simp[f])]
   ·simp only[go_sem,qv,Bool.not_false,Bool.not_true,f]
    refine⟨_,by simp only[go_sem],.inl (err 131 ?_)⟩
    unfold jw
    rw[if_neg (by simp[c,b]),if_neg (by simp[b]),if_pos (by simp[b,f])]
  ·simp only[go_sem,qv,Bool.not_false,Bool.not_true,b0,b1]
   refine zh (c14 _ s a U q.ev) ?_
   rintro _ p ⟨rfl,rfl⟩
   cases g:vI s q.ev
   ·simp only[go_sem,qv,Bool.not_false,Bool.not_true]
    exact⟨_,by simp only[go_sem],.inl (err 80 (by unfold jw;rw[if_pos (by simp[c,b,g])]))⟩
   ·cases f:decide (Jk l q.ev.id≥0)
    ·simp only[go_sem,qv,Bool.not_false,Bool.not_true,f]
     unfold jw
     rw[if_neg (by simp[c,b,g]),if_neg (by simp[b,f]),if_neg (by simp[b])]
    ·simp only[go_sem,qv,Bool.not_false,Bool.not_true,f]
     refine⟨_,by simp only[go_sem],.inl (err 130 ?_)⟩
     unfold jw
     rw[if_neg (by simp[c,b,g]),if_pos (by simp[b,f])]
  ·simp only[go_sem,qv,Bool.not_false,Bool.not_true,b0,b1]
   refine zh (c14 _ s a U q.ev) ?_
   rintro _ p ⟨rfl,rfl⟩
   cases g:vI s q.ev
   ·simp only[go_sem,qv,Bool.not_false,Bool.not_true]
    exact⟨_,by simp only[go_sem],.inl (err 80 (by unfold jw;rw[if_pos (by simp[c,b,g])]))⟩
   ·cases f:decide (Jk l q.ev.id<0)
    ·simp only[go_sem,qv,Bool.not_false,Bool.not_true,f]
     unfold jw
     rw[if_neg (by simp[c,b,g]),if_neg (by simp[b]),if_neg (by simp[f])]
    ·simp only[go_sem,qv,Bool.not_false,Bool.not_true,f]
     refine⟨_,by simp only[go_sem],.inl (err 131 ?_)⟩
     unfold jw
     rw[if_neg (by simp[c,b,g]),if_neg (by simp[b]),if_pos (by simp[b,f])]
 rintro T h' ⟨rfl,z,t1,t5,t8,t9,t10⟩
 obtain⟨X,_,γ,m⟩:=QP z
 rw[X]
 refine xo (ApI h q (Jk l q.ev.id) l) (by decide) ?_ ?_
 ·simp only[go_sem,t1]
  refine zh (c87 _ x l F (by omega)) ?_
  rintro _ p (⟨rfl,rfl,rfl⟩|⟨rfl,rfl⟩)
  ·simp only[go_sem]
   exact⟨⟨_,rfl,E⟩,b1,.inl ⟨by simp only[go_sem],rfl⟩,by simp only[go_sem,t5],by simp only[go_sem,t8],by simp only[go_sem,t9],by simp only[go_sem,t10]⟩
  ·simp only[go_sem]
   exact⟨⟨_,rfl,zl rfl (zl rfl (zD rfl))⟩,by rw[zG (k:=1) rfl];rfl,.inr ⟨h.length+2,1,by omega,by(simp only[go_sem]<;>simp),by rw[zG (k:=2) rfl];rfl⟩,by simp only[go_sem,t5],by simp only[go_sem,t8],by simp only[go_sem,t9],by simp only[go_sem,t10]⟩
 clear t1 t5 t8 t9 t10 z err
 rintro T h' k1
 refine xo (ApI h q (Jk l q.ev.id) (if xb q then WL l q.ev.id else l)) (by decide) ?_ ?_
 ·have t9:=k1.t9
  cases b:xb q
  ·simp only[go_sem,t9,b]
   exact⟨k1.pre,k1.b1,by simp only[go_sem];exact k1.own,by simp only[go_sem,k1.t5],by simp only[go_sem,k1.t8],by simp only[go_sem,t9,b],by simp only[go_sem,k1.t10]⟩
  ·rcases m with⟨V,_⟩|⟨_,P,y,R,S,_,_,Z,Q⟩
   ·rw[b] at V;cases V
   ·have o:=Q
    have w1:IntKind.wrap .i64 (Jk l q.ev.id+1)=(P.length:Int)+1:=by rw[o];exact qq (n:=(P.length:Int)+1) (by have:=congrArg List.length S;simp at this;unfold Fit;omega)
    rcases k1.own with⟨t,G⟩|⟨id,st,w,t,i⟩
    ·rw[S] at G;simp at G
    ·rw[S] at i
     simp only[go_sem,t9,b,k1.t10,t,w1]
     rw[o]
     refine zh (jHb _ id st P y R i) ?_
     rintro _ h2 ⟨rfl,rfl⟩
     simp only[go_sem]
     have j:id≠h.length+1:=λe=>by rw[e,k1.b1] at i;cases i
     exact⟨k1.pre.set w rfl,by rw[zc j];exact k1.b1,.inr ⟨id,st+1,w,by simp only[go_sem],by rw[Z];exact zm i⟩,by simp only[go_sem,k1.t5],by simp only[go_sem,k1.t8],by simp only[go_sem,k1.t9,b],by simp only[go_sem,k1.t10,o]⟩
 rintro T h' k2
 refine xo (ApI h q (Jk l q.ev.id) (wP l q)) (by decide) ?_ ?_
 ·have t8:=k2.t8
  cases c:xU q
  ·have d:wP l q=if xb q then WL l q.ev.id else l:=by unfold wP;rw[c];simp
   rw[d]
   simp only[go_sem,t8,c]
   exact⟨k2.pre,k2.b1,by simp only[go_sem];exact k2.own,by simp only[go_sem,k2.t5],by simp only[go_sem,t8,c],by simp only[go_sem,k2.t9],by simp only[go_sem,k2.t10]⟩
  ·have d:wP l q=(if xb q then WL l q.ev.id else l)++[q.ev]:=by unfold wP;rw[c];simp
   obtain⟨K,O⟩:∃K,K=if xb q then WL l q.ev.id else l:=⟨_,rfl⟩
   have W:K.length<=l.length:=by
    rw[O]
    split
    ·exact List.length_eraseP_le
    ·exact zp _
   rw[d, <-O]
   rw[<-O] at k2
   rcases k2.own with⟨t,G⟩|⟨id,st,w,t,i⟩
   ·have I:K=[]:=List.map_eq_nil_iff.1 G
    subst I
    have ε:=k2.pre.len
    simp only[go_sem,t8,c,t,k2.t5,k2.b1]
    exact⟨k2.pre.app (zl rfl (zD rfl)),ze k2.b1,.inr ⟨h'.length+1,0,by omega,by simp only[go_sem],by rw[zG (k:=1) rfl];rfl⟩,by simp only[go_sem,k2.t5],by simp only[go_sem,k2.t8],by simp only[go_sem,k2.t9],by simp only[go_sem,k2.t10]⟩
   ·have C:∀M,(h'++M)[id]? =some (.row 75 11 (K.map evC) st):=λM=>ze i
    have u:(K.length+1)*89<=140737488355328:=by omega
    have j:id≠h.length+1:=λe=>by have:=k2.b1;rw[e,this] at i;cases i
    simp only[go_sem,t8,c,t,k2.t5,k2.b1,C,zb,u]
    exact⟨(k2.pre.app (zD rfl)).set w rfl,by rw[zc j];exact ze k2.b1,.inr ⟨id,st+1,w,by simp only[go_sem],by rw[zw];exact zm (C _)⟩,by simp only[go_sem,k2.t5],by simp only[go_sem,k2.t8,c],by simp only[go_sem,k2.t9],by simp only[go_sem,k2.t10]⟩
 rintro T h' k3
 refine qD _ (by decide) ?_
 have Y:(wP l q).length<=l.length+1:=by
  unfold wP
  rw[zg]
  have p:(if xb q then WL l q.ev.id else l).length<=l.length:=by
   split
   ·exact List.length_eraseP_le
   ·exact zp _
  have h2:(if xU q then [q.ev] else []).length<=1:=by split<;>simp
  omega
 simp only[go_sem]
 refine zh (c57 _ _ (wP l q) k3.own.rows (by omega)) ?_
 rintro _ h4 (⟨D,rfl,rfl⟩|⟨rfl,rfl⟩)
 ·simp only[go_sem]
  obtain⟨L,H,J⟩:=k3.pre
  refine⟨_,by simp only[go_sem];rfl,.inl ⟨L,_,H,J,rfl,?_⟩⟩
  rw[D]
  exact λ_ _=>⟨rfl,λq=>absurd rfl q⟩
 ·simp only[go_sem]
  have A:=k3.pre.app (M:=[jh (qu (wP l q)) 1]) (zD rfl)
  have own:OwnS h (h'++[jh (qu (wP l q)) 1]) 75 11 (.tl h'.length 1) ((qu (wP l q)).map evC):= .inr ⟨_,_,k3.pre.len,rfl,by rw[zK rfl];rfl⟩
  obtain⟨L,H,J⟩:=A
  rw[H] at own⊢
  exact⟨_,by simp only[go_sem],.inl ⟨L,_,rfl,J,rfl,own.new (zp _)⟩⟩
theorem zFb(h:List Ob)(s:Setup)(a:SA)(k:SIn h s a)(x:AV)(l:List Ev)(q:Fx)(b:SlOf h x 11 (l.map evC))(c:l.length<524288):
  ACalls Tryz.prog 161 [jg s a,x,.ag (fxC q)] h λr h'=>r= .tup [.sl 11 ((jw s l q).1.map evC),i64 (jw s l q).2]/\h'=h:=
 X0 (by decide) rfl (wj _) (Wta h s a k x l q b c)
def vt(k:Int × Int):Value:= .agg #[.int .i64 k.1,.int .i64 k.2]
theorem Vn{a b:Int × Int}(h:vt a=vt b):a=b:=by
 unfold vt at h
 injection h with h
 injection h with h
 injection h with h1 h2
 injection h2 with h2
 injection h1 with _ h1
 injection h2 with _ h2
 exact Prod.ext h1 h2
theorem zMa:∃a b:Field,Tryz.prog.underlying 90=some (.struct #[a,b])/\a.type=3/\b.type=3/\a.offset=0/\b.offset=1:=
 ⟨_,_,Tryz.underlying90,rfl,rfl,rfl,rfl⟩
theorem Vo(w:World)(xs:Array Value)(k:Nat){n:Int}(h:xs[k]? =some (.int .i64 n)):(_root_.Go.part 3 xs k).run Tryz.prog w= .ok (.int .i64 n) w:=by
 have a:=run_underlying (w:=w) (show Tryz.prog.underlying 3=some _ from Tryz.underlying3)
 simp[_root_.Go.part,isAgg,a,h]
theorem X4(w:World)(em:Bool)(k:Int × Int):(Instr.checkKey em 10000 90 (vt k)).run Tryz.prog w= .ok () w:=by
 obtain⟨c,b,a,t1,t2,g,f⟩:=zMa
 have d:=run_underlying (w:=w) a
 have hi:=run_underlying (w:=w) (show Tryz.prog.underlying 3=some _ from Tryz.underlying3)
 have p1:=Vo w #[.int .i64 k.1,.int .i64 k.2] 0 rfl
 have p2:=Vo w #[.int .i64 k.1,.int .i64 k.2] 1 rfl
 have e:∀n:Int,(Instr.checkKey em 9999 3 (.int .i64 n)).run Tryz.prog w= .ok () w:=λn=>by
  unfold Instr.checkKey
  simp[hi]
 unfold vt
 unfold Instr.checkKey
 simp only[Sem.run_bind,d,Result.andThen]
 by_cases n1:c.name= "_" <;>by_cases n2:b.name= "_" <;>simp[t1,t2,g,f,p1,p2,e,n1,n2]
theorem wNa(w:World)(a b:Int × Int):(Op.equal 90 (vt a) (vt b)).run Tryz.prog w= .ok (a.1==b.1 && a.2==b.2) w:=by
 have g:wT (ctx w ⟨λ_=>0,λ_=> .bool true⟩ []) (λi=>if i=0 then .ag [i64 a.1,i64 a.2] else if i=1 then .ag [i64 b.1,i64 b.2] else .bad) { tmps:= #[vt a,vt b],defers:=[] }:=λi=>by
  by_cases h0:i=0
  ·subst h0
   exact⟨_,rfl,_,_,rfl,rfl,_,_,rfl,rfl,rfl⟩
  ·by_cases f:i=1
   ·subst f
    exact⟨_,rfl,_,_,rfl,rfl,_,_,rfl,rfl,rfl⟩
   ·simp only[h0,f,if_false]
    trivial
 obtain⟨U,V,d,c,e,_⟩:=VB (P:=Tryz.prog) g (t:=90) (X:= .tmp 0) (Y:= .tmp 1) (b:=a.1==b.1 && (a.2==b.2 && true)) rfl rfl (by rw[qlb]) (by kernel_rfl) (by kernel_rfl) rfl rfl
 have d:vt a= .agg U:=d
 have c:vt b= .agg V:=c
 rw[d,c]
 rw[Bool.and_true] at e
 exact e
structure KM (es:Array MapEntry) (c:Nat) (ks:List (Int × Int)):Prop where
 keys:es.toList.map (·.key)=ks.map vt
 vals:∀e∈es.toList,∃n,e.val= .int .i64 n
 born:(es.toList.map (·.born)).Nodup
 lt:∀e∈es.toList,e.born<c
def Jq(ks:List (Int × Int))(k:Int × Int):List (Int × Int):=if k∈ks then ks else ks++[k]
theorem wOa(c:Nat):KM #[] c []:=⟨rfl,λ_ h=>(by cases h),.nil,λ_ h=>by cases h⟩
theorem Vp:Tryz.prog.underlying 166=some (.map 90 3):=Tryz.underlying166
theorem y0a(w:World)(k:Int × Int):∀(es:List MapEntry) (ks:List (Int × Int)) (i:Nat),es.map (·.key)=ks.map vt->
  (k∉ks/\(Instr.findAsking 90 (vt k) es i).run Tryz.prog w= .ok none w)∨∃j e,es[j]? =some e/\e.key=vt k/\k∈ks/\(Instr.findAsking 90 (vt k) es i).run Tryz.prog w= .ok (some (i+j,e.val)) w
 | [],ks,i,h=>by
   cases ks with
   | nil=>exact .inl ⟨by simp,by simp[Instr.findAsking]⟩
   | cons a ks=>simp at h
 | e::es,[],i,h=>by simp at h
 | e::es,a::ks,i,h=>by
   rw[List.map_cons,List.map_cons] at h
   injection h with h1 h2
   have b:=wNa w k a
   by_cases c:k=a
   ·subst c
    refine .inr ⟨0,e,rfl,h1,.head _,?_⟩
    have:(k.1==k.1 && k.2==k.2)=true:=by simp
    rw[this] at b
    simp[Instr.findAsking,h1,b]
   ·have:(k.1==a.1 && k.2==a.2)=false:=by
     rw[jy]
     intro q
     rw[zq,beq_iff_eq,beq_iff_eq] at q
     exact c (Prod.ext q.1 q.2)
    rw[this] at b
    rcases y0a w k es ks (i+1) h2 with⟨d,f⟩|⟨j,x,d,f,l,g⟩
    ·refine .inl ⟨by simp[c,d],?_⟩
     simp[Instr.findAsking,h1,b,f]
    ·refine .inr ⟨j+1,x,d,f,.tail _ l,?_⟩
     simp[Instr.findAsking,h1,b,g]
     omega
theorem q9a(w:World)(k:Int × Int){es:Array MapEntry}{c:Nat}{ks:List (Int × Int)}(h:KM es c ks):
  (k∉ks/\(Instr.findKey 90 (vt k) es.toList).run Tryz.prog w= .ok none w)∨∃j e,es.toList[j]? =some e/\e.key=vt k/\k∈ks/\(Instr.findKey 90 (vt k) es.toList).run Tryz.prog w= .ok (some (j,e.val)) w:=by
 obtain⟨m,l,d,_⟩:=zMa
 have f:(match Tryz.prog.underlying 90 with|some (.array _ _)|some (.struct _)=>true|_=>false)=true:=by rw[d]
 rw[run_findKey_eq w f]
 rcases y0a w k es.toList ks 0 h.keys with q|⟨j,e,g,i,b,a⟩
 ·exact .inl q
 ·exact .inr ⟨j,e,g,i,b,by rw[a,Nat.zero_add]⟩
theorem Vq(w:World):(zeroValue 3).run Tryz.prog w= .ok (.int .i64 0) w:=Tryz.zeroValue3 w
theorem QLa(w:World)(l:Nat)(k:Int × Int){es:Array MapEntry}{c:Nat}{ks:List (Int × Int)}(h:KM es c ks)(d:w.heap[l]? =some (.map es c)):
  ∃n,(Instr.lookup 166 (.map (some l)) (vt k) false).run Tryz.prog w= .ok (.int .i64 n) w:=by
 have b:=X4 w es.isEmpty k
 rcases q9a w k h with⟨_,a⟩|⟨j,e,g,_,_,a⟩
 ·exact⟨0,by simp[Instr.lookup,run_underlying Vp,MapKept.run_getObj_map d,b,a,Vq,Result.andThen]⟩
 ·obtain⟨n,f⟩:=h.vals e (qr g)
  exact⟨n,by simp[Instr.lookup,run_underlying Vp,MapKept.run_getObj_map d,b,a,f,Result.andThen]⟩
theorem QMa(k:Int × Int):Instr.sameBits 10000 (vt k) (vt k)=true:=by
 unfold vt Instr.sameBits
 simp[Instr.sameBits]
theorem zNa(w:World)(l:Nat)(k:Int × Int){es:Array MapEntry}{c:Nat}{ks:List (Int × Int)}(h:KM es c ks)(g:w.heap[l]? =some (.map es c)):
  ∃es' c' n,∃st:Nat,(Instr.mapEntry 166 (.map (some l)) (vt k)).run Tryz.prog w= .ok (.tuple #[.int .i64 n,.int .i64 st]) { w with heap:=w.heap.setIfInBounds l (.map es' c') }/\KM es' c' (Jq ks k)/\∃e∈es'.toList,e.born=st:=by
 have u:=X4 w false k
 rcases q9a w k h with⟨m,o⟩|⟨j,e,q,v,z,o⟩
 ·refine⟨es.push ⟨vt k,.int .i64 0,c⟩,c+1,0,c,?_,?_,⟨vt k,.int .i64 0,c⟩,by simp,rfl⟩
  ·simp[Instr.mapEntry,run_underlying Vp,MapKept.run_getObj_map g,u,o,Vq,MapKept.run_setObj_map _ g,Result.andThen,goInt]
  ·unfold Jq
   rw[if_neg m]
   refine⟨by simp[h.keys],λe d=>?_,?_,λe d=>?_⟩
   ·rw[Array.toList_push,zI,zW] at d
    rcases d with d|rfl
    ·exact h.vals e d
    ·exact⟨0,rfl⟩
   ·rw[Array.toList_push,zw,List.nodup_append]
    refine⟨h.born,by simp,λa A b s=>?_⟩
    obtain⟨x,y,rfl⟩:=zt.1 A
    simp at s
    subst s
    have:=h.lt x y
    omega
   ·rw[Array.toList_push,zI,zW] at d
    rcases d with d|rfl
    ·have:=h.lt e d;omega
    ·exact Nat.lt_succ_self c
 ·have t:es[j]? =some e:=by rw[<-qC];exact q
  obtain⟨n,m⟩:=h.vals e (qr q)
  have f:es.modify j (λe=>{ e with key:=vt k })=es:=by
   apply Array.ext_getElem?
   intro i
   rw[Array.getElem?_modify]
   split
   ·rename_i r
    subst r
    rw[t]
    simp[<-v]
   ·rfl
  have p:(Instr.keyThatStays (vt k) (vt k)).run Tryz.prog w= .ok (vt k) w:=by simp[Instr.keyThatStays,QMa]
  refine⟨es,c,n,e.born,?_,?_,e,qr q,rfl⟩
  ·simp[Instr.mapEntry,run_underlying Vp,MapKept.run_getObj_map g,u,o,t,v,p,f,m,MapKept.run_setObj_map _ g,Result.andThen,goInt]
  ·unfold Jq
   rw[if_pos z]
   exact h
theorem wPa(w:World)(l:Nat)(st:Nat)(n:Int){es:Array MapEntry}{c:Nat}{ks:List (Int × Int)}(h:KM es c ks)(o:w.heap[l]? =some (.map es c))(q:∃e∈es.toList,e.born=st):
  ∃es',(Instr.entryStore 166 (.map (some l)) (.int .i64 st) (.int .i64 n)).run Tryz.prog w= .ok () { w with heap:=w.heap.setIfInBounds l (.map es' c) }/\KM es' c ks/\∃e∈es'.toList,e.born=st:=by
 obtain⟨e,m,rfl⟩:=q
 obtain⟨j,r⟩:=List.getElem?_of_mem m
 have k:es.findIdx? (λx=>((x.born:Nat):Int)==((e.born:Nat):Int))=some j:=by
  rw[WideElems.findIdx_arr]
  exact WideElems.findIdx_born h.born r
 refine⟨es.modify j λx=>{ x with val:= .int .i64 n },?_,?_⟩
 ·simp[Instr.entryStore,MapKept.run_getObj_map o,asInt,asIntOf,k,MapKept.run_setObj_map _ o,Result.andThen]
 ·have a:∀ {β:Type} (f:MapEntry->β),(∀x:MapEntry,f { x with val:= .int .i64 n }=f x)->(es.modify j λx=>{ x with val:= .int .i64 n }).toList.map f=es.toList.map f:=λf s=>by
   apply qX
   intro i
   rw[zz,zz,qC,qC,Array.getElem?_modify]
   split
   ·cases es[i]? <;>simp[s]
   ·rfl
  have d:∀x∈(es.modify j λx=>{ x with val:= .int .i64 n }).toList,∃y∈es.toList,x=y∨x={ y with val:= .int .i64 n }:=λx g=>by
   obtain⟨i,hi⟩:=List.getElem?_of_mem g
   rw[qC,Array.getElem?_modify] at hi
   split at hi
   ·cases b:es[i]? with
    | none=>rw[b] at hi;cases hi
    | some y=>
      rw[b] at hi
      injection hi with hi
      exact⟨y,by simpa using Array.mem_of_getElem? b,.inr hi.symm⟩
   ·exact⟨x,by simpa using Array.mem_of_getElem? hi,.inl rfl⟩
  have p:e.born∈(es.modify j λx=>{ x with val:= .int .i64 n }).toList.map (·.born):=by rw[a _ λ_=>rfl];exact zt.2 ⟨e,m,rfl⟩
  refine⟨⟨by rw[a _ λ_=>rfl];exact h.keys,λx g=>?_,by rw[a _ λ_=>rfl];exact h.born,λx g=>?_⟩,zt.1 p⟩
  ·obtain⟨y,b,rfl|rfl⟩:=d x g
   ·exact h.vals _ b
   ·exact⟨n,rfl⟩
  ·obtain⟨y,b,rfl|rfl⟩:=d x g
   ·exact h.lt _ b
   ·exact h.lt y b
end Go.Proofs.YtigdlmpjijhpaaaGreat.Ax
namespace Go.Proofs.YtigdlmpjijhpaaaGreat.Ax
open Go Go.RowKit
def JB(P:Program)(N:Nat)(o:Oper)(K:Env->List Ob->Prop)(T:Env)(h:List Ob):Prop:=
 ∀ (φ:Nat->Ob),Upto φ h.length->∀(B:Bs) (w:World) (g:Gh) (a:Act),Rel N B w g (fill φ h) a T->∀(Q:Exit->Act->World->Prop) (next:Act->World->Prop),
   (∀b h' w' c,K b h'->Aft N B φ w g h b h' c w'->next c w')->o.wp P a w next Q
section
variable {P:Program} {N:Nat} {B:Bs} {ops:Array Oper} {T:Env} {h:List Ob} {K:Env->List Ob->Prop} {o:Oper}
theorem yZ(a:vu N o=true)(k:z8a P T h o K):JB P N o K T h:=λ_ b _ _ _ _ r _ _ c=>Kc b a (jAa k) r c
theorem QR(e:vu N o=true)(k:∀(φ:Nat->Ob),Upto φ h.length->∀(B:Nat) (w:World) (g:Gh) (a:Act),HOk B w g (fill φ h)->B<=w.heap.size->wT (ctx w g (fill φ h)) T a->
  ∃d v w' g' x h',(execOp a.eval o).run P w= .ok d w'/\(d= .value v∨(d= .skip/\v=undef))/\K (jb T o.dst x) h'/\ResK h h'/\Good B w g (fill φ h) w' g' (fill φ h')/\AR (ctx w' g' (fill φ h')) x v):JB P N o K T h:=λφ m B w g a r Q next f=>by
 obtain⟨d,v,w',g',x,h',p,n,i,l,c,j⟩:=k φ m B.b w g a r.ok r.hB r.t
 unfold Oper.wp
 rw[p]
 rcases n with rfl|⟨rfl,rfl⟩
 ·exact f _ _ _ _ i ⟨g',l,wU r c j e,c⟩
 ·exact f _ _ _ _ i ⟨g',l,wU r c j e,c⟩
theorem QNa{φ:Nat->Ob}{J:(Nat->Bool)->Env->List Ob->Prop}(d:Qi ops 0 ops.toList=true)(hg:∀(i:Nat) (o:Oper),ops[i]? =some o->o.guard=none)
  (step:∀(i:Nat) (o:Oper) (S:Nat->Bool) (T:Env) (h:List Ob),ops[i]? =some o->S i=false->(∀j∈vT o,S j=true)->J S T h->JB P N o (J λm=>if m=i then true else S m) T h) {Q:Exit->Act->World->Prop}:
  ∀ (b:Nat) (listed:Array Bool),listed.size=ops.size->((List.range ops.size).filter λi=> !listed.getD i false).length<=b->∀ {T:Env} {h:List Ob},J (λi=>listed.getD i false) T h->Upto φ h.length->∀ {w:World} {g:Gh} {a:Act},Rel N B w g (fill φ h) a T->
    (∀S u h' w' E,(∀i,i<ops.size->S i=true)->J S u h'->Aft N B φ w g h u h' E w'->Q .normal E w')->wpAny P .any ops Q b listed a w:=by
 have same:∀(listed:Array Bool) (i:Nat),listed.size=ops.size->i<ops.size->listed.getD i true=listed.getD i false:=λlisted i c hi=>by
  rw[zU,zU,qH (by omega)]
  rfl
 have all:∀listed:Array Bool,listed.size=ops.size->Region.ready .any ops listed=[]->∀i,i<ops.size->listed.getD i false=true:=by
  intro listed c C i hi
  cases F:listed.getD i false
  ·exfalso
   obtain⟨n,⟨v,z⟩,p⟩:=least (J:=λn=>n<ops.size/\listed.getD n false=false) ⟨i,hi,F⟩
   have:n∈Region.ready .any ops listed:=YG v (by rw[same listed n c v];exact z) (qH v) λj hj=>by
    have A:=Z8 ops.toList 0 d n ops[n] (by simp[v]) j hj
    rw[Nat.zero_add] at A
    cases L:listed.getD j false
    ·have:=p j ⟨by omega,L⟩
     omega
    ·rfl
   rw[C] at this
   cases this
  ·rfl
 intro b
 induction b with
 | zero=>
   intro listed c l T h k K w g a r x
   have M:∀i,i<ops.size->listed.getD i false=true:=λi hi=>by
    cases F:listed.getD i false
    ·have:i∈(List.range ops.size).filter λi=> !listed.getD i false:=zL.2 ⟨qW.2 hi,by simp[F]⟩
     have h0:((List.range ops.size).filter λi=> !listed.getD i false)=[]:=zF (by omega)
     rw[h0] at this
     cases this
    ·rfl
   refine⟨?_,x _ _ _ _ _ M k (.refl r)⟩
   rw[List.eq_nil_iff_forall_not_mem]
   intro i hi
   obtain⟨q,f,_⟩:=yw hi
   rw[same listed i c q,M i q] at f
   cases f
 | succ b X=>
   intro listed c l T h k K w g a r x
   refine⟨λC=>x _ _ _ _ _ (all listed c C) k (.refl r),λi hi=>?_⟩
   obtain⟨q,f,o,I,h3⟩:=yw hi
   have t:listed.getD i false=false:=by rw[<-same listed i c q];exact f
   have G:=step i o _ T h I t h3 k
   unfold wpOp
   simp only[I]
   rw[if_pos (by simp[Region.wanted,hg i o I])]
   refine .inl (G φ K B w g a r _ _ λu h' w' E k' U=>?_)
   have V:=U
   obtain⟨g',q1,q2,O⟩:=U
   refine X _ (by simp[c]) ?_ (T:=u) (h:=h') ?_ (K.mono (Zz O)) q2 λS W f Z a2 Y z2 z3=>x S W f Z a2 Y z2 (z3.trans q1 O)
   ·have R:((List.range ops.size).filter λm=> !(listed.setIfInBounds i true).getD m false).length<((List.range ops.size).filter λm=> !listed.getD m false).length:=by
     have e:((List.range ops.size).filter λm=> !(listed.setIfInBounds i true).getD m false)=((List.range ops.size).filter λm=> !listed.getD m false).filter λm=> !(m==i):=by
      rw[List.filter_filter]
      refine List.filter_congr λm _=>?_
      rw[JS (by omega)]
      by_cases e:m=i
      ·simp[e]
      ·simp[e]
     rw[e]
     have s:i∈(List.range ops.size).filter λm=> !listed.getD m false:=zL.2 ⟨qW.2 q,by rw[t];rfl⟩
     have H:=qh (λm=> !(m==i)) ((List.range ops.size).filter λm=> !listed.getD m false)
     rcases Nat.lt_or_ge ((List.filter (λm=> !(m==i)) ((List.range ops.size).filter λm=> !listed.getD m false)).length) ((List.range ops.size).filter λm=> !listed.getD m false).length with y|D
     ·exact y
     ·have:=List.filter_eq_self.1 ((List.filter_sublist).eq_of_length (Nat.le_antisymm H D)) i s
      simp at this
    omega
   ·have:(λm=>(listed.setIfInBounds i true).getD m false)=λm=>if m=i then true else listed.getD m false:=by
     funext m
     rw[JS (by omega)]
    rw[this]
    exact k'
theorem Wua{id:Nat}{Q:xR}(k:P.follows .mixedOrders=true)(c:Qi ops 0 ops.toList=true)(v:∀(i:Nat) (o:Oper),ops[i]? =some o->o.guard=none)(J:(Nat->Bool)->Env->List Ob->Prop)(h0:J (λ_=>false) T h)
  (step:∀(i:Nat) (o:Oper) (S:Nat->Bool) (T:Env) (h:List Ob),ops[i]? =some o->S i=false->(∀j∈vT o,S j=true)->J S T h->JB P N o (J λm=>if m=i then true else S m) T h)
  (fin:∀S T h,(∀i,i<ops.size->S i=true)->J S T h->Q .normal T h):AWp P N B (.region id ops true) Q T h:=λφ l w g a r=>by
 have b:=Good.drew (g:=g) r.ok r.hB
 have p:Rel N B w.drew g (fill φ h) a T:=⟨b.ok,b.size,λi=>AR.le b.le _ _ (r.t i),r.d,r.n⟩
 refine wp_region_any k ?_
 refine QNa c v step ops.size (Array.replicate ops.size false) (by simp) ?_ ?_ l p λS e h' w' y x q ⟨g',s,u,f⟩=>⟨e,h',fin S e h' x q,g',s,u,b.trans f⟩
 ·have:=qh (λi=> !(Array.replicate ops.size false).getD i false) (List.range ops.size)
  rw[jz] at this
  exact this
 ·have:(λi=>(Array.replicate ops.size false).getD i false)=λ_=>false:=by
   funext i
   rw[zU,Array.getElem?_replicate]
   split<;>rfl
  rw[this]
  exact h0
theorem Kla{φ:Nat->Ob}{Q:Exit->Act->World->Prop}{o:Oper}{l:List Oper}{w:World}{g:Gh}{a:Act}(d:Upto φ h.length)(e:o.guard=none)(r:Rel N B w g (fill φ h) a T)(k:JB P N o K T h)
  (next:∀b h' w' c,K b h'->Aft N B φ w g h b h' c w'->wpListIn Fence.wide 0 P ops Q l c w'):wpListIn Fence.wide 0 P ops Q (o::l) a w:=by
 unfold wpListIn
 rw[if_pos (by simp[Region.wanted,e])]
 exact Qs 0 (k φ d B w g a r _ _ next)
def y1a(P:Program)(N:Nat)(K:Env->List Ob->Prop):List Oper->Env->List Ob->Prop
 | [],T,h=>K T h
 | o::l,T,h=>o.guard=none/\JB P N o (y1a P N K l) T h
theorem QOa:y1a P N K [] T h=K T h:=id rfl
attribute [go_sem] QOa
theorem WM{φ:Nat->Ob}{Q:Exit->Act->World->Prop}{rest:List Oper}:∀(l:List Oper) {T:Env} {h:List Ob},y1a P N K l T h->Upto φ h.length->∀ {w:World} {g:Gh} {a:Act},Rel N B w g (fill φ h) a T->
  (∀b h' w' d,K b h'->Aft N B φ w g h b h' d w'->wpListIn Fence.wide 0 P ops Q rest d w')->wpListIn Fence.wide 0 P ops Q (l++rest) a w
 | [],T,h,k,c,w,g,a,r,next=>next _ _ _ _ k (.refl r)
 | o::l,T,h,⟨q,k⟩,c,w,g,a,r,next=>by
   refine Kla c q r k λb h' w' d k' ⟨g',n,p,e⟩=>?_
   exact WM l k' (c.mono (Zz e)) p λj i f a2 s m=>next j i f a2 s (m.trans n e)
theorem zOa{id:Nat}{Q:xR}(l rest:List Oper)(b:ops.toList=l++rest)(e:rest.all (vu N)=true)(k:y1a P N (wpR P ops (Q .normal) rest) l T h):AWp P N B (.region id ops false) Q T h:=λφ d w g a r=>by
 refine(wpIn_wide (n:=0)).1 (wpIn_region ?_)
 rw[List.range_eq_range', <-qF,wpOpsIn_eq_wpListIn ops.toList 0 (by simp),b]
 refine WM l k d r λq h' w' t k' ⟨g',m,o,c⟩=>?_
 exact Zr rest e (d.mono (Zz c)) (xVa _ k') o λi f s a2 p j=>⟨i,f,p,j.trans m c⟩
end
open Go.Proofs
set_option maxRecDepth 100000
section
variable {P:Program} {N:Nat} {B:Bs} {c:Code} {Q:xR} {T:Env} {h:List Ob}
theorem wQa{id j ty:Nat}(hi:h[id]? =some (.mapo []))(H:h[j]? =some (.box ty [.mp id]))(k:∀l k0,AWp P N B c Q T ((h.set id (.raw l (.map #[] k0) [] [])).set j (.box ty [.v (.map (some l))]))):AWp P N B c Q T h:=λφ U w g a r=>by
 have m:=qL (φ:=φ) hi rfl
 have I:=qL (φ:=φ) H rfl
 obtain⟨L,es,k0,l',K,R,W,Y⟩:=r.ok.ok _ _ m
 have E:l'=[]:=List.Perm.eq_nil R
 subst E
 have o:es.toList=[]:=W
 have o:es= #[]:=by simpa using o
 subst o
 have x:id≠j:=λe=>by rw[e,H] at hi;cases hi
 have V:=(zd.1 hi).1
 have A:w.grownBy w ((Ob.mapo []).blk g id):=⟨rfl,rfl,rfl,zp _,λ_ _ _=>rfl⟩
 have y:=Le.turn (g':=g) (o':= .raw (g.β id) (.map #[] k0) [] []) m rfl A (λ_ _=>rfl) (λ_ _=>rfl) (λb p=> .inl p) (λ_=>⟨rfl,λs F=>by cases F⟩)
 have J:Good B.b w g (fill φ h) w g ((fill φ h).set id (.raw (g.β id) (.map #[] k0) [] [])):=⟨r.ok.turn m A (λ_ _=>rfl) (λ_ _=>rfl) (λb p=> .inl p) y ⟨L,K,rfl⟩,y,Below.refl _ _,r.hB⟩
 have f:((fill φ h).set id (.raw (g.β id) (.map #[] k0) [] []))[j]? =some (.box ty [.mp id]):=by rw[zc x];exact I
 obtain⟨n1,vs,n2,u,q,n3,⟨_,n4⟩,n5⟩:=J.ok.ok _ _ f
 have n5:q=[]:=n5
 subst n5
 have n4:u= .map (some (g.β id)):=n4
 subst n4
 have z:w.grownBy w ((Ob.box ty [.mp id]).blk g j):=⟨rfl,rfl,rfl,zp _,λ_ _ _=>rfl⟩
 have C:=Le.turn (g':=g) (o':= .box ty [.v (.map (some (g.β id)))]) f rfl z (λ_ _=>rfl) (λ_ _=>rfl) (λb p=> .inl p) (λ_=>⟨rfl,λs F=>by cases F⟩)
 have O:Good B.b w g ((fill φ h).set id (.raw (g.β id) (.map #[] k0) [] [])) w g (((fill φ h).set id (.raw (g.β id) (.map #[] k0) [] [])).set j (.box ty [.v (.map (some (g.β id)))])):=⟨J.ok.turn f z (λ_ _=>rfl) (λ_ _=>rfl) (λb p=> .inl p) C ⟨n1,vs,n2,_,_,n3,rfl,rfl⟩,C,Below.refl _ _,r.hB⟩
 have G:=J.trans O
 rw[<-ji rfl, <-ji rfl] at G
 have D:ResK h ((h.set id (.raw (g.β id) (.map #[] k0) [] [])).set j (.box ty [.v (.map (some (g.β id)))])):=(qj hi rfl).trans (qj (by rw[zc x];exact H) rfl)
 exact wp_mono (k (g.β id) k0 φ (U.mono (by simp)) w g a ⟨G.ok,G.size,λi=>AR.le G.le _ _ (r.t i),r.d,r.n⟩) λe Z w' ⟨M,h',X,S⟩=>⟨M,h',X,S.trans D G⟩
end
section
variable {N:Nat} {T:Env} {h:List Ob} {K:Env->List Ob->Prop} {o:Oper}
theorem k3a{a:Act}{c:Ctx}(b:wT c T a){d:Nat}{u:Value}(e:T d= .v u):a.eval (.tmp d)=u:=Zi b (x:= .tmp d) e
theorem Xl{φ:Nat->Ob}{B:Nat}{w:World}{g:Gh}(a:HOk B w g (fill φ h)){id l:Nat}{ob:Obj}{ks us}(hi:h[id]? =some (.raw l ob ks us)):w.heap[l]? =some ob:=(a.ok _ _ (qL hi rfl)).2.1
theorem Jr{φ:Nat->Ob}{B:Nat}{w b:World}{g:Gh}(c:HOk B w g (fill φ h))(hB:B<=w.heap.size)(d:b=w∨b=w.drew){id l:Nat}{ob:Obj}(hi:h[id]? =some (.raw l ob [] []))(a:Obj):
  Good B w g (fill φ h) { b with heap:=b.heap.setIfInBounds l a } g (fill φ (h.set id (.raw l a [] []))):=by
 rw[ji rfl]
 rcases d with rfl|rfl
 ·exact Qq c hB (qL hi rfl) a
 ·exact(Good.drew c hB).trans (Qq (Good.drew c hB).ok (Good.drew c hB).size (qL hi rfl) a)
theorem wRa(j:vu N o=true){d id l:Nat}{es:Array MapEntry}{c:Nat}(i:o.op= .range 166 (.tmp d))(p:T d= .v (.map (some l)))(hi:h[id]? =some (.raw l (.map es c) [] []))
  (k:∀r,K (jb T o.dst (.v (.pointer (some ⟨r,0,none⟩)))) (h++[.raw r (.mapIter (some l) c #[] c) [] []])):JB Tryz.prog N o K T h:=QR j λφ m B w g a f hB s=>by
 have q:=Xl f hi
 have e:=k3a s p
 have n:=run_range_map (P:=Tryz.prog) w 166 _ _ l es c Vp q
 have b:=Yh (g:=g) f hB (.mapIter (some l) c #[] c) (ks:=[]) (us:=[]) rfl
 rw[<-xc m] at b
 refine⟨_,_,_,g,_,_,?_,.inl rfl,k w.heap.size,resK_app,b,rfl⟩
 obtain⟨dst,op,type,pos,after,guard⟩:=o
 simp only at i
 subst i
 simp only[execOp,e]
 simp[n]
theorem QPa(t:vu N o=true){d id i l r:Nat}{es:Array MapEntry}{c b c0:Nat}{seen:Array Nat}(k:o.op= .next (.tmp d) false)(y:T d= .v (.pointer (some ⟨r,0,none⟩)))(hi:h[id]? =some (.raw l (.map es c) [] []))(m:h[i]? =some (.raw r (.mapIter (some l) b seen c0) [] []))
  (f:∀x∈es.toList,x.born<b) (p:b<=c0)
  (k0:(leftOf es seen).size=0->K (jb T o.dst (.tup [.v (.bool false)])) h)
  (k1:∀e∈(leftOf es seen).toList,K (jb T o.dst (.tup [.v (.bool true),ofV e.key,ofV e.val])) (h.set i (.raw r (.mapIter (some l) b (seen.push e.born) c) [] []))):JB Tryz.prog N o K T h:=QR t λφ z B w g a j hB u=>by
 have e:=k3a u y
 rcases run_next_at (P:=Tryz.prog) w o.type r l b c0 seen es c (Xl j m) (Xl j hi) f p with⟨z0,q⟩|⟨x,s,A,n,q⟩
 ·refine⟨_,_,w,g,_,h,?_,.inl rfl,k0 z0,.refl,Good.refl j hB, #[.bool false],rfl,_,_,rfl,rfl,rfl⟩
  obtain⟨dst,op,type,pos,after,guard⟩:=o
  simp only at k
  subst k
  simp only[execOp,e]
  simp[q]
 ·refine⟨_,_,_,g,_,_,?_,.inl rfl,k1 x s,qj m rfl,Jr j hB n m _, #[.bool true,x.key,x.val],rfl,_,_,rfl,rfl,_,_,rfl,Ye _,_,_,rfl,Ye _,rfl⟩
  obtain⟨dst,op,type,pos,after,guard⟩:=o
  simp only at k
  subst k
  simp only[execOp,e]
  simp[q]
  rfl
theorem wSa(n:vu N o=true){d id i l r:Nat}{es:Array MapEntry}{c b:Nat}{seen:Array Nat}{x:MapEntry}(j:o.op= .entry (.tmp d))(t:T d= .v (.pointer (some ⟨r,0,none⟩)))(hi:h[id]? =some (.raw l (.map es c) [] []))(s:h[i]? =some (.raw r (.mapIter (some l) b (seen.push x.born) c) [] []))
  (m:x∈es.toList) (p:(es.toList.map (·.born)).Nodup) (k:K (jb T o.dst (.tup [ofV x.key,ofV x.val])) h):JB Tryz.prog N o K T h:=QR n λφ u B w g a f hB q=>by
 have e:=k3a q t
 have z:=run_entry_at (P:=Tryz.prog) w r l b seen es c x (Xl f s) (Xl f hi) m p
 refine⟨_,_,w,g,_,h,?_,.inl rfl,k,.refl,Good.refl f hB, #[x.key,x.val],rfl,_,_,rfl,Ye _,_,_,rfl,Ye _,rfl⟩
 obtain⟨dst,op,type,pos,after,guard⟩:=o
 simp only at j
 subst j
 simp only[execOp,e]
 simp[z]
theorem Kma{a:Act}{c:Ctx}(l:wT c T a){d:Nat}{k:Int × Int}(e:T d= .ag [i64 k.1,i64 k.2]):a.eval (.tmp d)=vt k:=by
 have:=jV l (.tmp d)
 rw[show ev T (.tmp d)=T d from rfl,e] at this
 obtain⟨vs,j,_,_,h,f,_,_,i,b,g⟩:=this
 have f:_=Value.int .i64 k.1:=f
 have b:_=Value.int .i64 k.2:=b
 have g:_=([]:List Value):=g
 subst f b g
 subst i
 rw[j]
 unfold vt
 congr 1
 exact Array.toList_inj.1 h
theorem wTa(j:vu N o=true){d q id l:Nat}{es:Array MapEntry}{c:Nat}{ks:List (Int × Int)}{y:Int × Int}(i:o.op= .lookup 166 (.tmp d) (.tmp q) false)(r:T d= .v (.map (some l)))(s:T q= .ag [i64 y.1,i64 y.2])(hi:h[id]? =some (.raw l (.map es c) [] []))(m:KM es c ks)
  (k:∀n,K (jb T o.dst (i64 n)) h):JB Tryz.prog N o K T h:=QR j λφ t B w g a f hB b=>by
 have e:=k3a b r
 have p:=Kma b s
 obtain⟨n,z⟩:=QLa w l y m (Xl f hi)
 refine⟨_,_,w,g,_,h,?_,.inl rfl,k n,.refl,Good.refl f hB,rfl⟩
 obtain⟨dst,op,type,pos,after,guard⟩:=o
 simp only at i
 subst i
 simp only[execOp,e,p]
 simp[z]
theorem k4a(j:vu N o=true){d q id l:Nat}{es:Array MapEntry}{c:Nat}{ks:List (Int × Int)}{y:Int × Int}(i:o.op= .mapEntry 166 (.tmp d) (.tmp q))(r:T d= .v (.map (some l)))(s:T q= .ag [i64 y.1,i64 y.2])(hi:h[id]? =some (.raw l (.map es c) [] []))(m:KM es c ks)
  (k:∀es' c' n (st:Nat),KM es' c' (Jq ks y)->(∃e∈es'.toList,e.born=st)->K (jb T o.dst (.tup [i64 n,i64 st])) (h.set id (.raw l (.map es' c') [] []))):JB Tryz.prog N o K T h:=QR j λφ x B w g a f hB b=>by
 have e:=k3a b r
 have p:=Kma b s
 obtain⟨es',c',n,st,u,t,z3⟩:=zNa w l y m (Xl f hi)
 refine⟨_,_,_,g,_,_,?_,.inl rfl,k es' c' n st t z3,qj hi rfl,Jr f hB (.inl rfl) hi _, #[.int .i64 n,.int .i64 st],rfl,_,_,rfl,rfl,_,_,rfl,rfl,rfl⟩
 obtain⟨dst,op,type,pos,after,guard⟩:=o
 simp only at i
 subst i
 simp only[execOp,e,p]
 simp[u]
theorem k5a(m:vu N o=true){d q x id l:Nat}{es:Array MapEntry}{c:Nat}{ks:List (Int × Int)}{st:Nat}{n:Int}(i:o.op= .entryStore 166 (.tmp d) (.tmp q) (.tmp x))(t:T d= .v (.map (some l)))(y:T q=i64 st)(j:T x=i64 n)(hi:h[id]? =some (.raw l (.map es c) [] []))(p:KM es c ks)(r:∃e∈es.toList,e.born=st)
  (k:∀es' u,KM es' c ks->(∃e∈es'.toList,e.born=st)->K (jb T o.dst u) (h.set id (.raw l (.map es' c) [] []))):JB Tryz.prog N o K T h:=QR m λφ D B w g a f hB b=>by
 have e:=k3a b t
 have s:=k3a b y
 have z:=k3a b j
 obtain⟨es',C,A,z3⟩:=wPa w l st n p (Xl f hi) r
 refine⟨.skip,undef,_,g,.v undef,_,?_,.inr ⟨rfl,rfl⟩,k es' _ A z3,qj hi rfl,Jr f hB (.inl rfl) hi _,rfl⟩
 obtain⟨dst,op,type,pos,after,guard⟩:=o
 simp only at i
 subst i
 simp only[execOp,e,s,z]
 simp[C]
end
open Go.Shelf Go.Lib Go.Sort
def zPb(x:Int × Int):List Value:=[.int .i64 x.1,.int .i64 x.2]
def jl(x:Int × Int):List AV:=[i64 x.1,i64 x.2]
theorem Kpa{n:Nat}:∀l:List (Int × Int),qO n (l.map jl)=true
 | []=>rfl
 | s::l=>by
   rw[List.map_cons,qO,Kpa l];rfl
def wVa(x y:Int × Int):Int:=QS (Lib.compareInt x.1 y.1) (Lib.compareInt x.2 y.2)
theorem Kqa(x y:Int × Int):ltOf wVa x y=ltK x y:=by
 rw[Bool.eq_iff_iff,xF]
 unfold ltOf wVa QS Lib.compareInt
 by_cases a:x.1<y.1
 ·simp[a]
 ·by_cases b:y.1<x.1
  ·simp[a,b]
   omega
  ·by_cases c:x.2<y.2
   ·simp[a,b,c]
    omega
   ·by_cases d:y.2<x.2<;>(simp[a,b,c,d])
theorem x1b:SWO (ltOf wVa):=
 { irrefl:=λx=>by rw[Kqa,jy];intro q;rw[xF] at q;omega
   trans:=λx y z b a=>by rw[Kqa,xF] at *; omega
   ntrans:=λx y z b a=>by
    rw[Kqa,jy,Ne,xF] at*
    omega }
theorem Wva(h:List Ob)(id st:Nat)(l:List (Int × Int))(n:h[id]? =some (.row 90 2 (l.map jl) st))(k:l.length<1099511627776):
  ACalls Tryz.prog 99 [.tl id st,.fn (.func 100) [] []] h λr h'=>r= .tup []/\∃l':List (Int × Int),l'.Perm l/\(l'.Pairwise λa b=>ltOf wVa b a=false)/\h'=h.set id (.row 90 2 (l'.map jl) st):=by
 refine XRa zPb 2 (by decide) (λ_=>rfl) (ltOf wVa) (by kernel_rfl) (λl=>?_) ?_ ?_ h id st l n k
 ·refine⟨_,List.mergeSort_perm l (λa b=> !ltK b a),?_⟩
  have:=List.pairwise_mergeSort (le:=λa b:Int × Int=> !ltK b a) (λa b c p o=>by
   rw[Bool.not_eq_true',jy,Ne,xF] at *; omega) (λa b=>by
   rw[Bool.or_eq_true,Bool.not_eq_true',Bool.not_eq_true',jy,jy,Ne,Ne,xF,xF];omega) l
  exact this.imp λh=>by rw[Kqa];simpa using h
 ·intro blk off cap d w m f g
  have j:∀args w,(callFunc 100 args).run Tryz.prog w= .ok (.enter 100 args) w:=enters_of Tryz.func100 (by kernel_rfl) rfl
  have e:=AnyQ.slices_SortFunc j9a 2 Tryz.isAgg90 Tryz.sizeOf90 zPb (λ_=>rfl) (λx v i=>by simp[zPb] at i;rcases i with rfl|rfl<;>rfl) wVa x1b 100 #[] blk off cap d w j (λ_ _ _ _ x y=>Koa x y _) m f g
  exact e
 ·intro A cap w
  have e:=AnyF.slices_SortFunc_none j9a A cap (.func (.func 100) #[] #[]) w
  exact e
theorem Wwa(x:AV):xy Tryz.prog 99 [.v (.slice none 0 0),x] (.tup []):=λh=>by
 refine⟨by kernel_rfl,⟨_,_,⟨rfl,rfl⟩,.refl⟩,?_⟩
 intro φ k B w g vs j hB a
 obtain⟨v1,l,rfl,d,f,i,rfl,_,c⟩:=a
 have c:i=[]:=c
 subst c
 have d:v1= .slice none 0 0:=d
 subst d
 have b:=AnyF.slices_SortFunc_none j9a none 0 f w
 refine Calls.mono b ?_
 rintro e w' ⟨rfl,rfl⟩
 exact⟨_,_,_,_,rfl,⟨rfl,rfl⟩,.refl,Good.refl j hB, #[],rfl,rfl⟩
theorem k7a{l l' ks:List (Int × Int)}(d:l'.Perm l)(h:l'.Pairwise λa b=>ltOf wVa b a=false)(f:l.Nodup)(j:ks.Pairwise λa b=>ltK a b=true)(e:∀z,z∈l↔z∈ks):l'=ks:=by
 refine yZa ?_ j λz=>(d.mem_iff).trans (e z)
 have c:l'.Nodup:=d.nodup_iff.2 f
 refine List.Pairwise.imp₂ ?_ h c
 intro a b i g
 rw[Kqa,jy,Ne,xF] at i
 rw[xF]
 have:¬ (a.1=b.1/\a.2=b.2):=λq=>g (Prod.ext q.1 q.2)
 omega
theorem zQb(h:List Ob)(id st:Nat)(l ks:List (Int × Int))(m:h[id]? =some (.row 90 2 (l.map jl) st))(j:l.length<1099511627776)(d:l.Nodup)(k:ks.Pairwise λa b=>ltK a b=true)(c:∀z,z∈l↔z∈ks):
  ACalls Tryz.prog 99 [.tl id st,.fn (.func 100) [] []] h λr h'=>r= .tup []/\h'=h.set id (.row 90 2 (ks.map jl) st):=
 (Wva h id st l m j).mono λr h' ⟨e,l',i,f,g⟩=>⟨e,by rw[g,k7a i f d k c]⟩
