import Derived.Test.YtigdlmpjijhpaaaGreatKA
import Derived.Test.YtigdlmpjijhpaaaGreatK40
import Derived.Test.YtigdlmpjijhpaaaGreatK33
import Derived.Test.YtigdlmpjijhpaaaGreatK38
import Derived.Test.YtigdlmpjijhpaaaGreatK13
import Derived.WideKeyRuns
import Derived.WideKeyEntry
import Derived.Maps.RangeRun
import Derived.Test.YtigdlmpjijhpaaaGreatK10
import Derived.Test.YtigdlmpjijhpaaaGreatK41
import Derived.Test.YtigdlmpjijhpaaaGreatK37
set_option linter.all false
namespace Go.Proofs.YtigdlmpjijhpaaaGreat.Ax
open Go Go.Proofs
set_option maxRecDepth 100000
section
variable {h:List Ob} {d:Nat} {s:Setup} {a:SA} {x c:AV} {err:Int} {rows segs bytes:AV} {q:Cm}
theorem jUb(i:h[d]? =some (.box 154 (qO s a x c err rows segs bytes q)))(k:SIn h s a)(f:SFit s)(l:List Ev)(p:SlOf h x 11 (l.map evC))(v:l.length<1048576):
  ACalls Tryz.prog 80 [.ptr d 0] h λr h'=>r= .tup []/\h'=h.set d (.box 154 (qO s a x c (jK err (jf s q) 80) rows (if jK err (jf s q) 80==0 then .sl 5 ((qA s l q.worker).1.map xT) else segs) bytes q)):=by
 refine zi Tryz.f80 [] 29 rfl rfl rfl rfl rfl rfl (by decide) (⟨_,_,⟨rfl,rfl⟩,qi i rfl⟩) λB=>?_
 simp only[go_sem]
 refine zg (y2a i k) ?_
 rintro _ D ⟨rfl,z⟩
 rw[z]
 simp only[go_sem]
 refine zg (Xj i (jf s q) 80) ?_
 rintro _ C ⟨rfl,rfl⟩
 have j:=zm (b:=Ob.box 154 (qO s a x c (jK err (jf s q) 80) rows segs bytes q)) i
 have m:=p.keep (.setB (o:= .box 154 (qO s a x c (jK err (jf s q) 80) rows segs bytes q)) i)
 have k2:SIn (h.set d (.box 154 (qO s a x c (jK err (jf s q) 80) rows segs bytes q))) s a:=⟨k.w.keep (.setB i),k.e.keep (.setB i),k.c.keep (.setB i),k.g.keep (.setB i),k.r.keep (.setB i),k.t.keep (.setB i)⟩
 obtain⟨E,y⟩:∃E,E=jK err (jf s q) 80:=⟨_,rfl⟩
 rw[<-y] at j m k2⊢
 simp only[go_sem]
 cases n:E==0
 ·simp only[go_sem,n]
  exact⟨_,rfl,.inl ⟨rfl,rfl⟩⟩
 ·simp only[go_sem,n]
  refine zL rfl [] 0 [(0,0,[]),(1,0,[]),(2,0,[]),(3,0,[]),(4,0,[]),(6,0,[]),(7,0,[]),(8,0,[]),(9,0,[]),(11,0,[]),(12,0,[]),(13,0,[]),(14,0,[]),(5,0,[]),(10,0,[]),(15,0,[]),(16,0,[]),(17,0,[]),(18,0,[]),(19,0,[]),(20,0,[]),(21,0,[]),(22,0,[]),(23,0,[])] rfl (by decide) (by decide) ?_
  simp only[go_sem,j]
  refine zg (yVa _ s a k2 f x l q.worker m v) ?_
  rintro _ A ⟨rfl,u⟩
  rw[u]
  simp only[go_sem,j,qd]
  exact⟨_,rfl,.inl ⟨rfl,rfl⟩⟩
theorem SIn.keep(k:SIn h s a){h':List Ob}(r:RowsK h h'):SIn h' s a:=⟨k.w.keep r,k.e.keep r,k.c.keep r,k.g.keep r,k.r.keep r,k.t.keep r⟩
def y6(s:Setup)(err:Int)(q:Cm):Int:=jK (jK err (jf s q) 80) (kz q) 212
theorem jVb(i:h[d]? =some (.box 154 (qO s a x c err rows segs bytes q)))(k:SIn h s a)(f:SFit s)(l:List Ev)(z:SlOf h x 11 (l.map evC))(J:l.length<=1000):
  ACalls Tryz.prog 79 [.ptr d 0] h λr h'=>r= .tup []/\∃m L,h'=h.set d (.box 154 (qO s a x c (y6 s err q) m segs bytes q))++L/\NoRes L/\
   ((y6 s err q≠0/\m=rows/\L=[])∨(y6 s err q=0/\m= .tl h.length 0/\L=[.row 45 27 [ve (qm s l q.worker q.week).1++[.sl 2 ((qm s l q.worker q.week).2.map km)]] 0])):=by
 have hex:∃r h',(r=AV.tup []/\∃m L,h'=h.set d (.box 154 (qO s a x c (y6 s err q) m segs bytes q))++L/\NoRes L/\
   ((y6 s err q≠0/\m=rows/\L=[])∨(y6 s err q=0/\m= .tl h.length 0/\L=[.row 45 27 [ve (qm s l q.worker q.week).1++[.sl 2 ((qm s l q.worker q.week).2.map km)]] 0])))/\ResK h h':=by
  by_cases h0:y6 s err q=0
  ·exact⟨_,_,⟨rfl,_,_,rfl,zD rfl,.inr ⟨h0,rfl,rfl⟩⟩,(qi i rfl).trans resK_app⟩
  ·exact⟨_,_,⟨rfl,_,[],rfl,jh,.inl ⟨h0,rfl,rfl⟩⟩,by rw[zH];exact qi i rfl⟩
 refine zi Tryz.f79 [] 36 rfl rfl rfl rfl rfl rfl (by decide) (hex) λB=>?_
 simp only[go_sem]
 refine zg (y2a i k) ?_
 rintro _ K ⟨rfl,C⟩
 rw[C]
 simp only[go_sem]
 refine zg (Xj i (jf s q) 80) ?_
 rintro _ y ⟨rfl,rfl⟩
 have t:=zm (b:=Ob.box 154 (qO s a x c (jK err (jf s q) 80) rows segs bytes q)) i
 simp only[go_sem]
 refine zg (Kqa t) ?_
 rintro _ y ⟨rfl,F⟩
 rw[F]
 simp only[go_sem]
 refine zg (Xj t (kz q) 212) ?_
 rintro _ y ⟨rfl,rfl⟩
 rw[qd]
 have A:jK (jK err (jf s q) 80) (kz q) 212=y6 s err q:=rfl
 rw[A]
 have g:=zm (b:=Ob.box 154 (qO s a x c (y6 s err q) rows segs bytes q)) i
 have j:=z.keep (.setB (o:= .box 154 (qO s a x c (y6 s err q) rows segs bytes q)) i)
 have k3:=k.keep (.setB (o:= .box 154 (qO s a x c (y6 s err q) rows segs bytes q)) i)
 have e:(h.set d (.box 154 (qO s a x c (y6 s err q) rows segs bytes q))).length=h.length:=by rw[zN]
 obtain⟨E,w⟩:∃E,E=y6 s err q:=⟨_,rfl⟩
 rw[<-w] at g j k3 e⊢
 have p:∀o,(h.set d (.box 154 (qO s a x c E rows segs bytes q))).set d o=h.set d o:=λo=>qd _
 simp only[go_sem]
 cases u:E==0
 ·have h0:E≠0:=by simpa using u
  simp only[go_sem,u]
  exact⟨_,rfl,.inl ⟨rfl,rows,[],by rw[zH],jh,.inl ⟨h0,rfl,rfl⟩⟩⟩
 ·have h0:E=0:=by simpa using u
  simp only[go_sem,u]
  refine zL rfl [.res] 1 [(0,0,[]),(1,0,[]),(2,0,[]),(3,0,[]),(4,0,[]),(6,0,[]),(7,0,[]),(8,0,[]),(9,0,[]),(11,0,[]),(12,0,[]),(13,0,[]),(14,0,[]),(16,0,[]),(17,0,[]),(18,0,[]),(19,0,[]),(5,0,[]),(10,0,[]),(15,0,[]),(20,0,[]),(21,0,[]),(22,0,[]),(23,0,[]),(24,0,[]),(25,0,[]),(26,0,[])] rfl (by decide) (by decide) ?_
  obtain⟨H,D⟩:∃H,H=h.set d (.box 154 (qO s a x c E rows segs bytes q)):=⟨_,rfl⟩
  rw[<-D] at g j k3 e p⊢
  have n:∀M,(H++M)[d]? =some (.box 154 (qO s a x c E rows segs bytes q)):=λM=>ze g
  have v:=(zd.1 g).1
  simp only[go_sem,n]
  refine zg (zGb _ s a (k3.app _) f x l q.worker q.week (j.app _) J) ?_
  rintro _ N ⟨rfl,G⟩
  rw[G]
  obtain⟨W,I⟩:∃W,W=qm s l q.worker q.week:=⟨_,rfl⟩
  rw[<-I]
  simp only[go_sem,n,ve,List.cons_append,List.nil_append]
  refine⟨.tup [],rfl,.inl ⟨rfl,.tl h.length 0,_,?_,zD rfl,.inr ⟨h0,rfl,rfl⟩⟩⟩
  rw[qr _ _ v,p,e]
theorem zRb(b:h[d]? =some (.box 154 (qO s a x c err rows segs bytes q)))(j:Nat)(e:h[j]? =some (.box 151 [.ptr d 0]))(n:Int):
  ACalls Tryz.prog 168 [i64 n,.ptr j 0] h λr h'=>r=bl (n==q.week)/\h'=h:=by
 refine zi Tryz.f168 [.tmp 3] 11 rfl rfl rfl rfl rfl rfl (by decide) (⟨_,_,⟨rfl,rfl⟩,.refl⟩) λB=>?_
 simp only[go_sem,b,e]
 refine zn ?_<;>(simp only[go_sem]<;>try rfl)
end
structure Bk where
 evs:List Ev
 shut:List Int
structure An where
 err:Int
 rows:List (RowV × List Flg)
 segs:List Seg
 bytes:List Int
def wt(e:Int):An:=⟨e,[],[],[]⟩
def WM(l:List Ev)(id:Int):List Ev:=l.eraseP λe=>e.id==id
def wR(l:List Ev)(x:Fx):List Ev:=(if xh x then WM l x.ev.id else l)++if xY x then [x.ev] else []
def jx(s:Setup)(l:List Ev)(x:Fx):List Ev × Int:=
 if(!xY x && !xh x) || (xY x && !vK s x.ev) then([],80)
 else if !xh x && decide (Jn l x.ev.id≥0) then([],130)
 else if xh x && decide (Jn l x.ev.id<0) then([],131)
 else(qv (wR l x),0)
def ltK(a b:Int × Int):Bool:=decide (a.1<b.1) || (a.1==b.1 && decide (a.2<b.2))
theorem xG{a b:Int × Int}:ltK a b=true↔a.1<b.1∨(a.1=b.1/\a.2<b.2):=by simp[ltK]
def Jp(a b:Int):List Int:=(List.range (b - a+1).toNat).map λ(i:Nat)=>a+(i:Int)
theorem Kw{a b x:Int}:x∈Jp a b↔a<=x/\x<=b:=by
 unfold Jp
 rw[zr]
 constructor
 ·rintro ⟨i,hi,rfl⟩
  rw[qW] at hi
  omega
 ·rintro ⟨c,d⟩
  exact⟨(x - a).toNat,by rw[qW];omega,by omega⟩
def yk(s:Setup)(e:Ev):List (Int × Int):=(Jp (yi s e.at_).1 (yi s e.at_).2).map λk=>(e.worker,k)
theorem Wd{s:Setup}{e:Ev}{k:Int × Int}:k∈yk s e↔k.1=e.worker/\(yi s e.at_).1<=k.2/\k.2<=(yi s e.at_).2:=by
 unfold yk
 rw[zr]
 constructor
 ·rintro ⟨i,hi,rfl⟩
  exact⟨rfl,Kw.1 hi⟩
 ·rintro ⟨a,b⟩
  exact⟨k.2,Kw.2 b,by rw[<-a]⟩
def ZT(s:Setup)(l:List Ev)(x:Fx):List (Int × Int):=(if(Qb l x.ev.id).2 && xh x then yk s (Qb l x.ev.id).1 else [])++if xY x then yk s x.ev else []
def xaa(k:Int × Int):List (Int × Int)->List (Int × Int)
 | []=>[k]
 | y::r=>if ltK k y then k::y::r else if k=y then y::r else y::xaa k r
def Ksa(l:List (Int × Int)):List (Int × Int):=l.foldr xaa []
def jt(s:Setup)(l:List Ev)(x:Fx):List (Int × Int):=Ksa (ZT s l x)
theorem zLa{k z:Int × Int}:∀ {l:List (Int × Int)},z∈xaa k l↔z=k∨z∈l
 | []=>by simp[xaa]
 | y::r=>by
   unfold xaa
   split
   ·simp
   ·split
    ·rename_i h
     subst h
     simp
    ·rw[zx,zLa (l:=r),zx]
     constructor<;>(rintro (h|h|h)<;>simp[h])
theorem ZU{z:Int × Int}:∀ {l:List (Int × Int)},z∈Ksa l↔z∈l
 | []=>Iff.rfl
 | k::l=>by
   show z∈xaa k (Ksa l)↔_
   rw[zLa,ZU (l:=l),zx]
theorem k2a{k:Int × Int}:∀ {l:List (Int × Int)},l.Pairwise (λa b=>ltK a b=true)->(xaa k l).Pairwise λa b=>ltK a b=true
 | [],_=>by simp[xaa]
 | y::r,h=>by
   obtain⟨g,i⟩:=zR.1 h
   unfold xaa
   split
   ·rename_i d
    refine zR.2 ⟨λz c=>?_,h⟩
    rcases zx.1 c with rfl|c
    ·exact d
    ·have:=g z c
     rw[xG] at*
     omega
   ·split
    ·exact h
    ·rename_i d e
     refine zR.2 ⟨λz c=>?_,k2a i⟩
     rcases zLa.1 c with rfl|c
     ·rw[Bool.not_eq_true] at d
      have:¬ (z.1<y.1∨(z.1=y.1/\z.2<y.2)):=λq=>by rw[xG.2 q] at d;cases d
      rw[xG]
      have f:¬ (z.1=y.1/\z.2=y.2):=λq=>e (Prod.ext q.1 q.2)
      omega
     ·exact g z c
theorem Vn:∀(l:List (Int × Int)),(Ksa l).Pairwise λa b=>ltK a b=true
 | []=> .nil
 | k::l=>k2a (Vn l)
theorem y5a:∀ {a b:List (Int × Int)},a.Pairwise (λx y=>ltK x y=true)->b.Pairwise (λx y=>ltK x y=true)->(∀z,z∈a↔z∈b)->a=b
 | [],[],_,_,_=>rfl
 | [],y::b,_,_,h=>by have:=(h y).2 (.head _);cases this
 | x::a,[],_,_,h=>by have:=(h x).1 (.head _);cases this
 | x::a,y::b,k,i,h=>by
   obtain⟨a1,a2⟩:=zR.1 k
   obtain⟨b1,b2⟩:=zR.1 i
   have e:x=y:=by
    rcases zx.1 ((h x).1 (.head _)) with q|q
    ·exact q
    ·rcases zx.1 ((h y).2 (.head _)) with f|f
     ·exact f.symm
     ·have:=b1 x q
      have:=a1 y f
      rw[xG] at*
      omega
   subst e
   congr 1
   refine y5a a2 b2 λz=>?_
   have d:∀ {l:List (Int × Int)},(∀y∈l,ltK x y=true)->x∉l:=λj g=>by
    have:=j x g
    rw[xG] at this
    omega
   constructor
   ·intro c
    rcases zx.1 ((h z).1 (.tail _ c)) with rfl|q
    ·exact absurd c (d a1)
    ·exact q
   ·intro c
    rcases zx.1 ((h z).2 (.tail _ c)) with rfl|q
    ·exact absurd c (d b1)
    ·exact q
def Xm(n:Int):List Int->List Int
 | []=>[n]
 | y::r=>if n<=y then n::y::r else y::Xm n r
def jv(l:List Int)(w:Int):Bool:=l.any (w== ·)
theorem QQ{l:List Int}{w:Int}:jv l w=true↔w∈l:=by
 unfold jv
 rw[List.any_eq_true]
 constructor
 ·rintro ⟨x,b,a⟩
  rw[beq_iff_eq] at a
  subst a
  exact b
 ·intro h
  exact⟨w,h,by simp⟩
def QR(s:Setup)(b:Bk)(x:Fx):Int:=
 jK (jK (jK 0 ((jx s b.evs x).2==0) (jx s b.evs x).2) (decide (((jx s b.evs x).1.length:Int)<=200)) 210) (!(jt s b.evs x).any λk=>jv b.shut k.2) 211
def XT(s:Setup)(b:Bk)(x:Fx):Bk × An:=(if QR s b x==0 then⟨(jx s b.evs x).1,b.shut⟩ else b,wt (QR s b x))
def xj(s:Setup)(b:Bk)(wk:Int):List (RowV × List Flg):=(List.range s.rates.length).map λ(w:Nat)=>qm s b.evs (w:Int) wk
def doP(s:Setup)(b:Bk)(q:Cm):Bk × An:=
 if q.kind=1 then XT s b ⟨1,q.fx.ev⟩
 else if q.kind=2 then XT s b q.fx
 else if q.kind=3 then(b,if y6 s 0 q==0 then⟨0,[qm s b.evs q.worker q.week],[],[]⟩ else wt (y6 s 0 q))
 else if q.kind=4 then(b,if jf s q then⟨0,[],(qA s b.evs q.worker).1,[]⟩ else wt 80)
 else if q.kind=5 then(if kz q && !jv b.shut q.week then(⟨b.evs,Xm q.week b.shut⟩,wt 0) else(b,wt 212))
 else if q.kind=6 then(if jv b.shut q.week then(⟨b.evs,b.shut.filter λw=> !(w==q.week)⟩,wt 0) else(b,wt 212))
 else if q.kind=7 then(b,if jv b.shut q.week then⟨0,xj s b q.week,[],(j5 (xj s b q.week)).1⟩ else wt 212)
 else if q.kind=8 then(b,wt 0)
 else(b,wt 240)
def vC(s:Setup):Bk->List Cm->Bk × List An
 | b,[]=>(b,[])
 | b,q::l=>((vC s (doP s b q).1 l).1,(doP s b q).2::(vC s (doP s b q).1 l).2)
structure BkI (s:Setup) (b:Bk):Prop where
 few:b.evs.length<=200
 srt:Srt b.evs
 ids:(b.evs.map (·.id)).Nodup
 ok:∀e∈b.evs,vK s e=true
 rise:b.shut.Pairwise (· < ·)
 rng:∀w∈b.shut,0<=w/\w<=52
theorem zMa{e:Int}{c:Bool}{d:Int}(b:d≠0):jK e c d=0↔e=0/\c=true:=by
 unfold jK
 cases c
 ·by_cases a:e=0
  ·subst a;simp[b]
  ·have:(e==0)=false:=by simpa using a
   simp[this,a]
 ·simp
theorem zNa{n z:Int}:∀ {l:List Int},z∈Xm n l↔z=n∨z∈l
 | []=>by simp[Xm]
 | y::r=>by
   unfold Xm
   split
   ·simp
   ·rw[zx,zNa (l:=r),zx]
    constructor<;>(rintro (h|h|h)<;>simp[h])
theorem We{n:Int}:∀ {l:List Int},n∉l->l.Pairwise (· < ·)->(Xm n l).Pairwise (· < ·)
 | [],_,_=>by simp[Xm]
 | y::r,b,h=>by
   obtain⟨c,e⟩:=zR.1 h
   have d:n≠y:=λq=>b (by rw[q];exact .head _)
   unfold Xm
   split
   ·refine zR.2 ⟨λz a=>?_,h⟩
    rcases zx.1 a with rfl|a
    ·omega
    ·have:=c z a;omega
   ·refine zR.2 ⟨λz a=>?_,We (λq=>b (.tail _ q)) e⟩
    rcases zNa.1 a with rfl|a
    ·omega
    ·exact c z a
theorem jca(n:Int):∀l:List Int,(Xm n l).Perm (n::l)
 | []=> .refl _
 | y::r=>by
   unfold Xm
   split
   ·exact .refl _
   ·exact(List.Perm.cons y (jca n r)).trans (List.Perm.swap n y r)
theorem QS{s:Setup}{l:List Ev}{x:Fx}(h:(jx s l x).2=0):jx s l x=(qv (wR l x),0)/\(xY x=true∨xh x=true)/\(xY x=true->vK s x.ev=true)/\
  ((xh x=false/\xY x=true/\∀e∈l,e.id≠x.ev.id)∨(xh x=true/\∃A y R,l=A++y::R/\Qb l x.ev.id=(y,true)/\y.id=x.ev.id/\WM l x.ev.id=A++R/\Jn l x.ev.id=(A.length:Int))):=by
 unfold jx at h⊢
 split at h
 ·cases h
 ·rename_i v
  split at h
  ·cases h
  ·rename_i k
   split at h
   ·cases h
   ·rename_i n
    rw[if_neg v,if_neg k,if_neg n]
    have f:¬ (xY x=false/\xh x=false)/\¬ (xY x=true/\vK s x.ev=false):=by
     cases c:xY x<;>cases b:xh x<;>cases i:vK s x.ev<;>simp_all
    refine⟨rfl,?_,?_,?_⟩
    ·cases c:xY x<;>cases b:xh x<;>simp_all
    ·intro c
     cases i:vK s x.ev
     ·exact absurd ⟨c,i⟩ f.2
     ·rfl
    ·have c:xh x=false->xY x=true:=λb=>by
      cases c:xY x
      ·exact absurd ⟨c,b⟩ f.1
      ·rfl
     cases b:xh x
     ·refine .inl ⟨rfl,c b,?_⟩
      rw[b] at k
      have k:¬ (0:Int)<=Jn l x.ev.id:=by simpa using k
      rcases V8 l x.ev.id with⟨_,d⟩|⟨A,y,R,_,d,_⟩
      ·intro e i hid
       unfold Qb at d
       cases q:l.find? (λe=>e.id==x.ev.id) with
       | none=>have:=List.find?_eq_none.1 q e i;simp[hid] at this
       | some z=>rw[q] at d;cases d
      ·omega
     ·refine .inr ⟨rfl,?_⟩
      rw[b] at n
      have n:¬ Jn l x.ev.id<0:=by simpa using n
      rcases V8 l x.ev.id with⟨j,_⟩|⟨A,y,R,j,d,u,t⟩
      ·omega
      ·refine⟨A,y,R,j,u,t,?_,d⟩
       have w:∀a∈A,(a.id==x.ev.id)=false:=λa o=>by
        rcases Xa (λe=>e.id==x.ev.id) l with⟨m,_⟩|⟨p,y',B,m,r,z3,z4⟩
        ·have m:Jn l x.ev.id= -1:=m
         omega
        ·have r:Jn l x.ev.id=(p.length:Int):=r
         have g:A.length=p.length:=by omega
         have:=List.append_inj_left (j.symm.trans m) g
         subst this
         exact z4 a o
       unfold WM
       rw[j,List.eraseP_append_right _ (λa o=>by simp[w a o]),List.eraseP_cons_of_pos (by simp[t])]
theorem Kta{l A R:List Ev}{y e:Ev}(h:l=A++y::R)(a:e∈A++R):e∈l:=by
 subst h
 rcases zK.1 a with a|a
 ·exact List.mem_append_left _ a
 ·exact List.mem_append_right _ (.tail _ a)
theorem wSa{l A R:List Ev}{y:Ev}(h:l=A++y::R)(c:(l.map (·.id)).Nodup):((A++R).map (·.id)).Nodup/\∀e∈A++R,e.id≠y.id:=by
 subst h
 have a:((y::(A++R)).map (·.id)).Nodup:=(List.Perm.nodup_iff (List.Perm.map _ List.perm_middle)).1 c
 rw[List.map_cons,List.nodup_cons] at a
 exact⟨a.2,λe b q=>a.1 (zr.2 ⟨e,b,q⟩)⟩
theorem k3a{s:Setup}{l:List Ev}{x:Fx}(h:(jx s l x).2=0)(j:(l.map (·.id)).Nodup)(i:∀e∈l,vK s e=true):((wR l x).map (·.id)).Nodup/\∀e∈wR l x,vK s e=true:=by
 obtain⟨_,_,p,q⟩:=QS h
 have key:∀K:List Ev,(K.map (·.id)).Nodup->(∀e∈K,vK s e=true)->(∀e∈K,e.id≠x.ev.id)->((K++if xY x then [x.ev] else []).map (·.id)).Nodup/\∀e∈K++(if xY x then [x.ev] else []),vK s e=true:=λK k1 k2 k3=>by
  cases g:xY x
  ·simpa using ⟨k1,k2⟩
  ·simp only[if_true]
   refine⟨?_,λe c=>?_⟩
   ·rw[zw,List.nodup_append]
    refine⟨k1,by simp,λa n b f=>?_⟩
    obtain⟨e,c,rfl⟩:=zr.1 n
    simp at f
    subst f
    exact k3 e c
   ·rcases zK.1 c with c|c
    ·exact k2 e c
    ·rw[zW] at c
     subst c
     exact p g
 unfold wR
 rcases q with⟨d,g,hid⟩|⟨d,A,y,R,k,r,o,m,_⟩
 ·rw[d]
  exact key l j i hid
 ·rw[d]
  simp only[if_true]
  rw[m]
  obtain⟨n1,n2⟩:=wSa k j
  exact key _ n1 (λe c=>i e (Kta k c)) λe c=>by rw[<-o];exact n2 e c
theorem Wf{s:Setup}{b:Bk}{x:Fx}:QR s b x=0↔(jx s b.evs x).2=0/\(jx s b.evs x).1.length<=200/\∀k∈jt s b.evs x,k.2∉b.shut:=by
 unfold QR
 rw[zMa (by decide),zMa (by decide)]
 have f:jK 0 ((jx s b.evs x).2==0) (jx s b.evs x).2=(jx s b.evs x).2:=by
  unfold jK
  by_cases h:(jx s b.evs x).2=0
  ·simp[h]
  ·have:((jx s b.evs x).2==0)=false:=by simpa using h
   simp[this]
 rw[f,decide_eq_true_eq,Bool.not_eq_true',List.any_eq_false]
 constructor
 ·rintro ⟨⟨a,e⟩,d⟩
  exact⟨a,by omega,λk c q=>d k c (QQ.2 q)⟩
 ·rintro ⟨a,e,d⟩
  exact⟨⟨a,by omega⟩,λk c q=>d k c (QQ.1 q)⟩
theorem k4a{s:Setup}{b:Bk}{x:Fx}(h:BkI s b):BkI s (XT s b x).1:=by
 unfold XT
 by_cases h0:QR s b x=0
 ·obtain⟨d,c,i⟩:=Wf.1 h0
  simp only[h0,beq_self_eq_true,if_true]
  obtain⟨g,_⟩:=QS d
  obtain⟨n1,n2⟩:=k3a d h.ids h.ok
  have a:=xL (wR b.evs x)
  rw[g] at c⊢
  exact⟨c,ko _,(List.Perm.nodup_iff (List.Perm.map _ a)).2 n1,λe f=>n2 e (a.mem_iff.1 f),h.rise,h.rng⟩
 ·have:(QR s b x==0)=false:=by simpa using h0
  simp only[this,Bool.false_eq_true,if_false]
  exact h
theorem QT{q:Cm}:kz q=true↔0<=q.week/\q.week<=52:=by
 unfold kz
 simp
theorem Vo{s:Setup}{b:Bk}(q:Cm)(h:BkI s b):BkI s (doP s b q).1:=by
 unfold doP
 split
 ·exact k4a h
 ·split
  ·exact k4a h
  ·split
   ·exact h
   ·split
    ·exact h
    ·split
     ·split
      ·rename_i c
       rw[zq,Bool.not_eq_true'] at c
       have d:=QT.1 c.1
       have e:q.week∉b.shut:=λf=>by rw[QQ.2 f] at c;cases c.2
       exact⟨h.few,h.srt,h.ids,h.ok,We e h.rise,λw a=>by
        rcases zNa.1 a with rfl|a
        ·exact d
        ·exact h.rng w a⟩
      ·exact h
     ·split
      ·split
       ·exact⟨h.few,h.srt,h.ids,h.ok,h.rise.filter _,λw d=>h.rng w (zT.1 d).1⟩
       ·exact h
      ·split
       ·exact h
       ·split
        ·exact h
        ·exact h
theorem k5a{s:Setup}:∀(l:List Cm) {b:Bk},BkI s b->BkI s (vC s b l).1
 | [],_,h=>h
 | q::l,_,h=>k5a l (Vo q h)
def Kx:Bk:=⟨[],[]⟩
theorem QPa(s:Setup):BkI s Kx:=⟨by decide,trivial,.nil,λ_ h=>(by cases h),.nil,λ_ h=>by cases h⟩
theorem k6a{s:Setup}:∀(l:List Cm) {b:Bk},(vC s b l).2.length=l.length
 | [],_=>rfl
 | q::l,_=>by simp[vC,k6a l]
theorem k7a{s:Setup}:∀(a l:List Cm) {b:Bk},vC s b (a++l)=((vC s (vC s b a).1 l).1,(vC s b a).2++(vC s (vC s b a).1 l).2)
 | [],l,b=>rfl
 | q::a,l,b=>by
   rw[List.cons_append,vC,k7a a l]
   rfl
theorem QQa{A R:List Ev}{y:Ev}:(A++y::R).Perm (y::(A++R)):=List.perm_middle
theorem WDa{s:Setup}{b:Bk}{x:Fx}(hi:BkI s b)(h:(jx s b.evs x).2=0){w wk:Int}(p:(w,wk)∉ZT s b.evs x):qm s (qv (wR b.evs x)) w wk=qm s b.evs w wk:=by
 obtain⟨_,_,t,v⟩:=QS h
 obtain⟨n1,n2⟩:=k3a h hi.ids hi.ok
 have d:∀e:Ev,vK s e=true->(w,wk)∉yk s e->e.worker=w->vK s e=true->z6 s=true->Out s e.at_ wk:=λe m n u _ r=>
  zKb r (wO (yC m)).2.2.2.1 λq=>n (Wd.2 ⟨u.symm,q⟩)
 have f:xY x=true->(w,wk)∉yk s x.ev:=λj q=>p (List.mem_append_right _ (by rw[j];exact q))
 have j:=xL (wR b.evs x)
 rw[Wb j ((List.Perm.nodup_iff (List.Perm.map _ j)).2 n1)]
 have more:∀K:List Ev,((K++if xY x then [x.ev] else []).map (·.id)).Nodup->qm s (K++if xY x then [x.ev] else []) w wk=qm s K w wk:=λK i=>by
  cases c:xY x
  ·simp
  ·rw[c] at i
   simp only[if_true] at i⊢
   have a:(K++[x.ev]).Perm (x.ev::K):=List.perm_append_comm
   rw[Wb a i]
   exact q9a ((List.Perm.nodup_iff (List.Perm.map _ a)).1 i) (d x.ev (t c) (f c))
 unfold wR at n1⊢
 rcases v with⟨g,c,hid⟩|⟨g,A,y,R,o,z,C,B,_⟩
 ·rw[g] at n1⊢
  simp only[Bool.false_eq_true,if_false] at n1⊢
  exact more _ n1
 ·rw[g] at n1⊢
  simp only[if_true] at n1⊢
  rw[more _ n1,B]
  have a:b.evs.Perm (y::(A++R)):=by rw[o];exact QQa
  rw[Wb (l:=b.evs) a hi.ids]
  have k:(w,wk)∉yk s y:=λq=>p (List.mem_append_left _ (by rw[z,g];exact q))
  exact(q9a ((List.Perm.nodup_iff (List.Perm.map _ a)).1 hi.ids) (d y (hi.ok y (by rw[o];simp)) k)).symm
theorem Kua{s:Setup}{b:Bk}{x:Fx}(hi:BkI s b){w wk:Int}(c:QR s b x=0->(w,wk)∉jt s b.evs x):qm s (XT s b x).1.evs w wk=qm s b.evs w wk:=by
 unfold XT
 by_cases h0:QR s b x=0
 ·obtain⟨a,_⟩:=Wf.1 h0
  simp only[h0,beq_self_eq_true,if_true]
  rw[(QS a).1]
  exact WDa hi a λq=>c h0 (ZU.2 q)
 ·have:(QR s b x==0)=false:=by simpa using h0
  simp only[this,Bool.false_eq_true,if_false]
open Go.RowKit
theorem k8a{c:Ctx}:∀ {vs us:List Value},ARs c (vs.map .v) us->us=vs
 | [],_,h=>h
 | v::vs,_,⟨u,r,b,a,d⟩=>by
   have a:u=v:=a
   rw[b,a,k8a d]
def WEa(e:Ev):List Value:=[.int .i64 e.id,.int .i64 e.worker,.int .i64 e.at_,.int .i64 e.kind,.int .i64 e.from_,.int .i64 e.to_,.int .i64 e.element,.int .i64 e.units,.int .i64 e.class_,.int .i64 e.gear,.int .i64 e.code]
def wy(l:List Ev):List Value:=(l.map WEa).flatten
theorem XM:∀l:List Ev,(wy l).length=l.length*11
 | []=>rfl
 | e::l=>by
   have:=XM l
   unfold wy at*
   rw[List.map_cons,List.flatten_cons,zf,this,List.length_cons]
   show 11+_=_
   omega
theorem Wg(a b:List Ev):wy (a++b)=wy a++wy b:=by unfold wy;rw[zw,List.flatten_append]
theorem zOa:∀l:List Ev,(l.map evC).flatten=(wy l).map .v
 | []=>rfl
 | e::l=>by
   have:=zOa l
   unfold wy at*
   rw[List.map_cons,List.map_cons,List.flatten_cons,List.flatten_cons,zw,this]
   rfl
theorem QRa(l:List Ev):∀v∈wy l,v.oneCell'=true:=λv a=>by
 unfold wy at a
 obtain⟨L,b,a⟩:=List.mem_flatten.1 a
 obtain⟨e,_,rfl⟩:=zr.1 b
 unfold WEa at a
 simp only[zx,List.not_mem_nil,or_false] at a
 rcases a with rfl|rfl|rfl|rfl|rfl|rfl|rfl|rfl|rfl|rfl|rfl<;>rfl
theorem jWb:∃z,(∀w,(zeroValue 75).run Tryz.prog w= .ok z w)/\z.cells.size=11/\∀u∈z.cells.toList,u.oneCell'=true:=
 ⟨_,Tryz.zeroValue75,rfl,λu a=>by
  simp[Value.cells] at a
  rw[a]
  rfl⟩
theorem jXb:∃i,Tryz.prog.info? 75=some i/\i.size=11:=by
 have h:(Tryz.prog.info? 75).map (λi=>i.size)=some 11:=by kernel_rfl
 cases hi:Tryz.prog.info? 75 with
 | none=>rw[hi] at h;cases h
 | some i=>
   rw[hi] at h
   injection h with h
   exact⟨i,rfl,h⟩
theorem jYb(h:List Ob)(id st:Nat)(P:List Ev)(y:Ev)(R:List Ev)(X:h[id]? =some (ji (P++y::R) st)):
  ACalls Tryz.prog 221 [.tl id st,i64 P.length,i64 ((P.length:Int)+1)] h λr h'=>r= .tl id (st+1)/\h'=h.set id (ji (P++R) (st+1)):=by
 refine⟨by kernel_rfl,⟨_,_,⟨rfl,rfl⟩,qi X rfl⟩,λφ H B w g vs hh hB d=>?_⟩
 have m:=qL (φ:=φ) X rfl
 obtain⟨v1,r1,rfl,h1,v2,r2,rfl,h2,v3,r3,rfl,h3,Y⟩:=d
 have Y:r3=[]:=Y
 have h2:v2= .int .i64 (P.length:Int):=h2
 have h3:v3= .int .i64 ((P.length:Int)+1):=h3
 have U:=Qj h1 m
 subst Y h2 h3 U
 obtain⟨_,_,cells,q2,W⟩:=hh.ok _ _ m
 rw[zOa] at W
 have W:=k8a W
 subst W
 obtain⟨n,hn⟩:∃n,n=(P++y::R).length:=⟨_,rfl⟩
 have ω:n=P.length+1+R.length:=by rw[hn];simp;omega
 have e0:((P++y::R).map evC).length=n:=by rw[zb,hn]
 rw[e0] at q2
 rcases q2.2 with⟨_,L⟩|⟨a,cap,cur,L,e2,e3,e4,e5,e6,e7⟩
 ·omega
 ·have L:g.cur id= .slice (some ⟨a,0,none⟩) n cap:=L
  obtain⟨j,hj⟩:∃j,j=P.length+1:=⟨_,rfl⟩
  have t:wy (P++y::R)=wy P++WEa y++wy R:=by
   rw[show P++y::R=P++[y]++R by simp,Wg,Wg]
   congr 2
  have l1:=XM P
  have l2:=XM R
  have ly:(WEa y).length=11:=rfl
  have hcl:n*11<=cur.size:=by rw[e6];exact Nat.mul_le_mul_right _ e4
  have G:cur.toList.take (P.length*11)=wy P:=by
   have:cur.toList.take (P.length*11)=(cur.toList.take (n*11)).take (P.length*11):=by rw[List.take_take,Nat.min_eq_left (by omega)]
   rw[this,e7,t,zt,qE (by omega),List.take_of_length_le (by omega)]
  have K:(cur.toList.drop (j*11)).take (R.length*11)=wy R:=by
   have:(cur.toList.drop (j*11)).take (R.length*11)=(cur.toList.take (n*11)).drop (j*11):=by
    rw[List.drop_take]
    congr 1
    omega
   rw[this,e7,t,List.drop_append_of_le_length (by rw[zf];omega),List.drop_of_length_le (by rw[zf];omega),List.nil_append]
  have M:w.drew.heap[a]? =some (.cells cur 75 (0,0)):=e3
  obtain⟨A,hA,V⟩:∃A:Addr,(if cap=j then(some ⟨a,0,none⟩:Option Addr) else some ⟨a,j*11,none⟩)=some A/\∀k u,(wy R)[k]? =some u->w.drew.cell? (A.add k)=some u:=by
   by_cases hc:cap=j
   ·refine⟨_,by rw[if_pos hc],λk u H=>?_⟩
    have:(wy R).length=0:=by omega
    rw[zF this] at H
    cases H
   ·refine⟨_,by rw[if_neg hc],λk u H=>?_⟩
    have hk:=(zd.1 H).1
    rw[<-K,qY,if_pos (by omega),List.getElem?_drop,qC] at H
    rw[Addr.add_lit]
    unfold World.cell?
    rw[M]
    exact H
  obtain⟨ii,ε,E⟩:=jXb
  obtain⟨z,z1,z2,z3⟩:=jWb
  have f:=WS (P:=Tryz.prog) w.drew 31 31 75 ii Tryz.underlying31 ε a _ cur M P.length cap A (n - j) (cap - j) (wy R) (by rw[E];omega) V (QRa R) (by omega) (by rw[E];omega)
  rw[E] at f
  obtain⟨c,D⟩:∃c,c=JI cur (P.length*11) (wy R):=⟨_,rfl⟩
  rw[<-D] at f
  have i:c.size=cur.size:=by rw[D,Ye (by omega)]
  have Q:=setRow_heap w.drew a cur c _ _ M
  have T:∀ty,(Builtin.clear_ #[31] ty #[.slice (some ⟨a,(P.length+(n - j))*11,none⟩) (n - (P.length+(n - j))) (cap - (P.length+(n - j)))]).run Tryz.prog (w.drew.setRow a c)= .ok (.tuple #[]) ((w.drew.setRow a c).setRow a (JI c ((P.length+(n - j))*11) z.cells.toList)):=λty=>by
   have:=Yf (P:=Tryz.prog) (w.drew.setRow a c) 31 ty 75 z Tryz.underlying31 z1 a _ c Q ((P.length+(n - j))*11) (cap - (P.length+(n - j))) z3 (by rw[z2,i];omega)
   rw[show n - (P.length+(n - j))=1 by omega]
   exact this
  have p:=xBb a cap P.length j n cur w e3 e4 e5 (by rw[e6]) hj.symm (by omega) A hA _ _ f T
  obtain⟨v,J⟩:∃v,v=JI c ((P.length+(n - j))*11) z.cells.toList:=⟨_,rfl⟩
  rw[<-J] at p
  have β:z.cells.toList.length=11:=by rw[qF];exact z2
  have S:v.size=cur.size:=by rw[J,Ye (by rw[β,i];omega),i]
  have Z:=setRow_heap (w.drew.setRow a c) a c v _ _ Q
  have hm:P.length+(n - j)=(P++R).length:=by rw[zf];omega
  have O:v.toList.take ((P++R).length*11)=wy (P++R):=by
   rw[J, <-hm]
   unfold JI
   rw[zt,qE (by have hq:c.toList.length=c.size:=qF;rw[zJ];omega),List.take_take,Nat.min_self,D]
   unfold JI
   rw[G,qE (by rw[zf];omega),List.take_of_length_le (by rw[zf];omega),Wg]
  have d: #[g.cur id,.int .i64 (P.length:Int),.int .i64 ((P.length:Int)+1)]= #[.slice (some ⟨a,0,none⟩) n cap,.int .i64 (P.length:Int),.int .i64 (j:Int)]:=by
   rw[L,hj]
   simp
  have I:(Array.mk [g.cur id,Value.int .i64 (P.length:Int),Value.int .i64 ((P.length:Int)+1)])= #[.slice (some ⟨a,0,none⟩) n cap,.int .i64 (P.length:Int),.int .i64 (j:Int)]:=d
  show Calls Tryz.prog _ (Array.mk [g.cur id,Value.int .i64 (P.length:Int),Value.int .i64 ((P.length:Int)+1)]) w _
  rw[I]
  refine p.mono ?_
  rintro e w' ⟨rfl,rfl⟩
  have F:w.grownBy ((w.drew.setRow a c).setRow a v) (some a):=by
   refine⟨rfl,rfl,rfl,by simp,λk hk l=>?_⟩
   have l:k≠a:=λq=>l (by rw[q])
   rw[setRow_other _ _ _ _ l,setRow_other _ _ _ _ l]
   rfl
  have C:=Zy (w':=(w.drew.setRow a c).setRow a v) (xs':=(P++R).map evC) (v':= .slice (some ⟨a,0,none⟩) (P.length+(n - j)) cap) (cells:=wy (P++R)) (st':=st+1) hh hB m (λx hx=>by
   obtain⟨e,_,rfl⟩:=zr.1 hx;rfl) (by rw[L];exact F) (by
   rw[zb,hm]
   exact⟨XM _,.inr ⟨a,cap,v,rfl,e2,Z,by omega,e5,by rw[S,e6],O⟩⟩) (by rw[zOa];exact JM _) (.inr (Nat.lt_succ_self st)) (λb M=> .inl (by rw[L];exact M))
  have N:=(zd.1 m).1
  have hlt:=(zd.1 X).1
  refine⟨_,_,_,_,rfl,⟨rfl,rfl⟩,qi X rfl,by rw[jj rfl];exact C,⟨_,_,_,rfl⟩,⟨_,by rw[jj rfl,zp N],rfl⟩,λs o=>?_⟩
  have o:Ob.tok (fill φ (h.set id (ji (P++R) (st+1))))[id]? =some s:=o
  rw[jj rfl,zp N] at o
  have o:some (st+1)=some s:=o
  injection o with o
  subst o
  exact⟨zo _,λ_=>by simp[ctx]⟩
end Go.Proofs.YtigdlmpjijhpaaaGreat.Ax
namespace Go.Proofs.YtigdlmpjijhpaaaGreat.Ax
open Go Go.Proofs
set_option maxRecDepth 100000
abbrev AH(h:List Ob)(s:Setup)(a:SA)(q:Fx):List Ob:=h++[.box 30 (qg s a),.box 77 (fxC q)]
structure ApI (h:List Ob) (q:Fx) (at_:Int) (rows:List Ev) (T:Env) (h':List Ob):Prop where
 pre:Pre h h'
 b1:h'[h.length+1]? =some (.box 77 (fxC q))
 own:OwnS h h' 75 11 (T 11) (rows.map evC)
 t5:T 5= .ptr (h.length+1) 0
 t8:T 8=bl (xY q)
 t9:T 9=bl (xh q)
 t10:T 10=i64 at_
theorem WFa(h:List Ob)(s:Setup)(a:SA)(k:SIn h s a)(x:AV)(l:List Ev)(q:Fx)(W:SlOf h x 11 (l.map evC))(hl:l.length<524288):
  ACalls Tryz.prog 161 [je s a,x,.ag (fxC q)] h λr h'=>∃L y,h'=h++L/\NoRes L/\r= .tup [y,i64 (jx s l q).2]/\New h 11 y ((jx s l q).1.map evC) L:=by
 have hex:∃r h',(∃L y,h'=h++L/\NoRes L/\r=AV.tup [y,i64 (jx s l q).2]/\New h 11 y ((jx s l q).1.map evC) L)/\ResK h h':=
  ⟨_,_,⟨[],.sl 11 _,rfl,jh,rfl,λ_ _=>⟨rfl,λ_=>rfl⟩⟩,resK_app⟩
 refine jN (N:=67) (rs:=[.tmp 6,.tmp 7]) (fn:=Tryz.f161) rfl rfl rfl rfl (qo rfl) rfl (hex) λB=>?_
 refine qG (by decide) ?_
 simp only[go_sem,k.ones]
 have b0:(AH h s a q)[h.length]? =some (.box 30 (qg s a)):=by rw[zM rfl];rfl
 have b1:(AH h s a q)[h.length+1]? =some (.box 77 (fxC q)):=by rw[zG (k:=1) rfl];rfl
 have D:SlOf (AH h s a q) x 11 (l.map evC):=W.app _
 have U:SIn (AH h s a q) s a:=k.app _
 refine jS (qG (by decide) ?_)
 refine zL rfl [] 0 [(0,0,[]),(2,0,[]),(1,0,[2]),(3,0,[]),(4,0,[]),(5,0,[])] rfl (by decide) (by decide) ?_
 simp only[go_sem,b1]
 refine zg (YIa q _) ?_
 rintro _ p ⟨rfl,rfl⟩
 simp only[go_sem,b1]
 refine zg (Kea q _) ?_
 rintro _ p ⟨rfl,rfl⟩
 simp only[go_sem,b1]
 refine jS (qG (by decide) ?_)
 simp only[go_sem,b1]
 refine zg (jOb _ x l q.ev.id D (by omega)) ?_
 rintro _ p ⟨rfl,rfl⟩
 simp only[go_sem]
 have E:NoRes [Ob.box 30 (qg s a),.box 77 (fxC q)]:=zl rfl (zD rfl)
 have err:∀e:Int,jx s l q=([],e)->∃L y,AH h s a q=h++L/\NoRes L/\AV.tup [.v (.slice none 0 0),i64 e]= .tup [y,i64 (jx s l q).2]/\New h 11 y ((jx s l q).1.map evC) L:=λe i=>by
  rw[i]
  exact⟨_,_,rfl,E,rfl,λ_ _=>⟨rfl,λq=>absurd rfl q⟩⟩
 refine jS (xr (λT h'=>h'=AH h s a q/\(jx s l q).2=0/\T 1=x/\T 5= .ptr (h.length+1) 0/\T 8=bl (xY q)/\T 9=bl (xh q)/\T 10=i64 (Jn l q.ev.id)) (by decide) ?_ ?_)
 ·cases c:xY q<;>cases b:xh q
  ·simp only[go_sem,qt,Bool.not_false,Bool.not_true]
   exact⟨_,by simp only[go_sem],.inl (err 80 (by unfold jx;rw[if_pos (by simp[c,b])]))⟩
  ·cases f:decide (Jn l q.ev.id<0)
   ·simp only[go_sem,qt,Bool.not_false,Bool.not_true,f]
    unfold jx
    rw[if_neg (by simp[c,b]),if_neg (by simp[b]),if_neg (by simp[f])]
   ·simp only[go_sem,qt,Bool.not_false,Bool.not_true,f]
    refine⟨_,by simp only[go_sem],.inl (err 131 ?_)⟩
    unfold jx
    rw[if_neg (by simp[c,b]),if_neg (by simp[b]),if_pos (by simp[b,f])]
  ·simp only[go_sem,qt,Bool.not_false,Bool.not_true,b0,b1]
   refine zg (c14 _ s a U q.ev) ?_
   rintro _ p ⟨rfl,rfl⟩
   cases i:vK s q.ev
   ·simp only[go_sem,qt,Bool.not_false,Bool.not_true]
    exact⟨_,by simp only[go_sem],.inl (err 80 (by unfold jx;rw[if_pos (by simp[c,b,i])]))⟩
   ·cases f:decide (Jn l q.ev.id≥0)
    ·simp only[go_sem,qt,Bool.not_false,Bool.not_true,f]
     unfold jx
     rw[if_neg (by simp[c,b,i]),if_neg (by simp[b,f]),if_neg (by simp[b])]
    ·simp only[go_sem,qt,Bool.not_false,Bool.not_true,f]
     refine⟨_,by simp only[go_sem],.inl (err 130 ?_)⟩
     unfold jx
     rw[if_neg (by simp[c,b,i]),if_pos (by simp[b,f])]
  ·simp only[go_sem,qt,Bool.not_false,Bool.not_true,b0,b1]
   refine zg (c14 _ s a U q.ev) ?_
   rintro _ p ⟨rfl,rfl⟩
   cases i:vK s q.ev
   ·simp only[go_sem,qt,Bool.not_false,Bool.not_true]
    exact⟨_,by simp only[go_sem],.inl (err 80 (by unfold jx;rw[if_pos (by simp[c,b,i])]))⟩
   ·cases f:decide (Jn l q.ev.id<0)
    ·simp only[go_sem,qt,Bool.not_false,Bool.not_true,f]
     unfold jx
     rw[if_neg (by simp[c,b,i]),if_neg (by simp[b]),if_neg (by simp[f])]
    ·simp only[go_sem,qt,Bool.not_false,Bool.not_true,f]
     refine⟨_,by simp only[go_sem],.inl (err 131 ?_)⟩
     unfold jx
     rw[if_neg (by simp[c,b,i]),if_neg (by simp[b]),if_pos (by simp[b,f])]
 rintro T h' ⟨rfl,u,t1,t5,t8,t9,t10⟩
 obtain⟨Y,_,γ,m⟩:=QS u
 rw[Y]
 refine xr (ApI h q (Jn l q.ev.id) l) (by decide) ?_ ?_
 ·simp only[go_sem,t1]
  refine zg (c87 _ x l D (by omega)) ?_
  rintro _ p (⟨rfl,rfl,rfl⟩|⟨rfl,rfl⟩)
  ·simp only[go_sem]
   exact⟨⟨_,rfl,E⟩,b1,.inl ⟨by simp only[go_sem],rfl⟩,by simp only[go_sem,t5],by simp only[go_sem,t8],by simp only[go_sem,t9],by simp only[go_sem,t10]⟩
  ·simp only[go_sem]
   exact⟨⟨_,rfl,zl rfl (zl rfl (zD rfl))⟩,by rw[zG (k:=1) rfl];rfl,.inr ⟨h.length+2,1,by omega,by(simp only[go_sem]<;>simp),by rw[zG (k:=2) rfl];rfl⟩,by simp only[go_sem,t5],by simp only[go_sem,t8],by simp only[go_sem,t9],by simp only[go_sem,t10]⟩
 clear t1 t5 t8 t9 t10 u err
 rintro T h' k1
 refine xr (ApI h q (Jn l q.ev.id) (if xh q then WM l q.ev.id else l)) (by decide) ?_ ?_
 ·have t9:=k1.t9
  cases b:xh q
  ·simp only[go_sem,t9,b]
   exact⟨k1.pre,k1.b1,by simp only[go_sem];exact k1.own,by simp only[go_sem,k1.t5],by simp only[go_sem,k1.t8],by simp only[go_sem,t9,b],by simp only[go_sem,k1.t10]⟩
  ·rcases m with⟨V,_⟩|⟨_,P,y,R,I,_,_,q4,H⟩
   ·rw[b] at V;cases V
   ·have o:=H
    have w1:IntKind.wrap .i64 (Jn l q.ev.id+1)=(P.length:Int)+1:=by rw[o];exact qp (n:=(P.length:Int)+1) (by have:=congrArg List.length I;simp at this;unfold Fit;omega)
    rcases k1.own with⟨t,G⟩|⟨id,st,C,t,g⟩
    ·rw[I] at G;simp at G
    ·rw[I] at g
     simp only[go_sem,t9,b,k1.t10,t,w1]
     rw[o]
     refine zg (jYb _ id st P y R g) ?_
     rintro _ Z ⟨rfl,rfl⟩
     simp only[go_sem]
     have j:id≠h.length+1:=λe=>by rw[e,k1.b1] at g;cases g
     exact⟨k1.pre.set C rfl,by rw[zc j];exact k1.b1,.inr ⟨id,st+1,C,by simp only[go_sem],by rw[q4];exact zm g⟩,by simp only[go_sem,k1.t5],by simp only[go_sem,k1.t8],by simp only[go_sem,k1.t9,b],by simp only[go_sem,k1.t10,o]⟩
 rintro T h' k2
 refine xr (ApI h q (Jn l q.ev.id) (wR l q)) (by decide) ?_ ?_
 ·have t8:=k2.t8
  cases c:xY q
  ·have d:wR l q=if xh q then WM l q.ev.id else l:=by unfold wR;rw[c];simp
   rw[d]
   simp only[go_sem,t8,c]
   exact⟨k2.pre,k2.b1,by simp only[go_sem];exact k2.own,by simp only[go_sem,k2.t5],by simp only[go_sem,t8,c],by simp only[go_sem,k2.t9],by simp only[go_sem,k2.t10]⟩
  ·have d:wR l q=(if xh q then WM l q.ev.id else l)++[q.ev]:=by unfold wR;rw[c];simp
   obtain⟨K,Q⟩:∃K,K=if xh q then WM l q.ev.id else l:=⟨_,rfl⟩
   have δ:K.length<=l.length:=by
    rw[Q]
    split
    ·exact List.length_eraseP_le
    ·exact zo _
   rw[d, <-Q]
   rw[<-Q] at k2
   rcases k2.own with⟨t,G⟩|⟨id,st,C,t,g⟩
   ·have S:K=[]:=List.map_eq_nil_iff.1 G
    subst S
    have X:=k2.pre.len
    simp only[go_sem,t8,c,t,k2.t5,k2.b1]
    exact⟨k2.pre.app (zl rfl (zD rfl)),ze k2.b1,.inr ⟨h'.length+1,0,by omega,by simp only[go_sem],by rw[zG (k:=1) rfl];rfl⟩,by simp only[go_sem,k2.t5],by simp only[go_sem,k2.t8],by simp only[go_sem,k2.t9],by simp only[go_sem,k2.t10]⟩
   ·have F:∀M,(h'++M)[id]? =some (.row 75 11 (K.map evC) st):=λM=>ze g
    have z:(K.length+1)*89<=140737488355328:=by omega
    have j:id≠h.length+1:=λe=>by have:=k2.b1;rw[e,this] at g;cases g
    simp only[go_sem,t8,c,t,k2.t5,k2.b1,F,zb,z]
    exact⟨(k2.pre.app (zD rfl)).set C rfl,by rw[zc j];exact ze k2.b1,.inr ⟨id,st+1,C,by simp only[go_sem],by rw[zw];exact zm (F _)⟩,by simp only[go_sem,k2.t5],by simp only[go_sem,k2.t8,c],by simp only[go_sem,k2.t9],by simp only[go_sem,k2.t10]⟩
 rintro T h' k3
 refine qD _ (by decide) ?_
 have β:(wR l q).length<=l.length+1:=by
  unfold wR
  rw[zf]
  have p:(if xh q then WM l q.ev.id else l).length<=l.length:=by
   split
   ·exact List.length_eraseP_le
   ·exact zo _
  have Z:(if xY q then [q.ev] else []).length<=1:=by split<;>simp
  omega
 simp only[go_sem]
 refine zg (c57 _ _ (wR l q) k3.own.rows (by omega)) ?_
 rintro _ h4 (⟨w,rfl,rfl⟩|⟨rfl,rfl⟩)
 ·simp only[go_sem]
  obtain⟨L,O,J⟩:=k3.pre
  refine⟨_,by simp only[go_sem];rfl,.inl ⟨L,_,O,J,rfl,?_⟩⟩
  rw[w]
  exact λ_ _=>⟨rfl,λq=>absurd rfl q⟩
 ·simp only[go_sem]
  have A:=k3.pre.app (M:=[ji (qv (wR l q)) 1]) (zD rfl)
  have own:OwnS h (h'++[ji (qv (wR l q)) 1]) 75 11 (.tl h'.length 1) ((qv (wR l q)).map evC):= .inr ⟨_,_,k3.pre.len,rfl,by rw[zM rfl];rfl⟩
  obtain⟨L,O,J⟩:=A
  rw[O] at own⊢
  exact⟨_,by simp only[go_sem],.inl ⟨L,_,rfl,J,rfl,own.new (zo _)⟩⟩
theorem zSb(h:List Ob)(s:Setup)(a:SA)(k:SIn h s a)(x:AV)(l:List Ev)(q:Fx)(b:SlOf h x 11 (l.map evC))(c:l.length<524288):
  ACalls Tryz.prog 161 [je s a,x,.ag (fxC q)] h λr h'=>r= .tup [.sl 11 ((jx s l q).1.map evC),i64 (jx s l q).2]/\h'=h:=
 X4 (by decide) rfl (vE _) (WFa h s a k x l q b c)
def vu(k:Int × Int):Value:= .agg #[.int .i64 k.1,.int .i64 k.2]
theorem Vp{a b:Int × Int}(h:vu a=vu b):a=b:=by
 unfold vu at h
 injection h with h
 injection h with h
 injection h with h1 h2
 injection h2 with h2
 injection h1 with _ h1
 injection h2 with _ h2
 exact Prod.ext h1 h2
theorem zPa:∃a b:Field,Tryz.prog.underlying 90=some (.struct #[a,b])/\a.type=3/\b.type=3/\a.offset=0/\b.offset=1:=
 ⟨_,_,Tryz.underlying90,rfl,rfl,rfl,rfl⟩
theorem Vq(w:World)(xs:Array Value)(k:Nat){n:Int}(h:xs[k]? =some (.int .i64 n)):(_root_.Go.part 3 xs k).run Tryz.prog w= .ok (.int .i64 n) w:=by
 have a:=run_underlying (w:=w) (show Tryz.prog.underlying 3=some _ from Tryz.underlying3)
 simp[_root_.Go.part,isAgg,a,h]
theorem X5(w:World)(em:Bool)(k:Int × Int):(Instr.checkKey em 10000 90 (vu k)).run Tryz.prog w= .ok () w:=by
 obtain⟨d,b,f,t1,t2,e,a⟩:=zPa
 have g:=run_underlying (w:=w) f
 have hi:=run_underlying (w:=w) (show Tryz.prog.underlying 3=some _ from Tryz.underlying3)
 have p1:=Vq w #[.int .i64 k.1,.int .i64 k.2] 0 rfl
 have p2:=Vq w #[.int .i64 k.1,.int .i64 k.2] 1 rfl
 have c:∀n:Int,(Instr.checkKey em 9999 3 (.int .i64 n)).run Tryz.prog w= .ok () w:=λn=>by
  unfold Instr.checkKey
  simp[hi]
 unfold vu
 unfold Instr.checkKey
 simp only[Sem.run_bind,g,Result.andThen]
 by_cases n1:d.name= "_" <;>by_cases n2:b.name= "_" <;>simp[t1,t2,e,a,p1,p2,c,n1,n2]
theorem wTa(w:World)(a b:Int × Int):(Op.equal 90 (vu a) (vu b)).run Tryz.prog w= .ok (a.1==b.1 && a.2==b.2) w:=by
 have g:wU (ctx w ⟨λ_=>0,λ_=> .bool true⟩ []) (λi=>if i=0 then .ag [i64 a.1,i64 a.2] else if i=1 then .ag [i64 b.1,i64 b.2] else .bad) { tmps:= #[vu a,vu b],defers:=[] }:=λi=>by
  by_cases h0:i=0
  ·subst h0
   exact⟨_,rfl,_,_,rfl,rfl,_,_,rfl,rfl,rfl⟩
  ·by_cases f:i=1
   ·subst f
    exact⟨_,rfl,_,_,rfl,rfl,_,_,rfl,rfl,rfl⟩
   ·simp only[h0,f,if_false]
    trivial
 obtain⟨U,V,d,c,e,_⟩:=VD (P:=Tryz.prog) g (t:=90) (X:= .tmp 0) (Y:= .tmp 1) (b:=a.1==b.1 && (a.2==b.2 && true)) rfl rfl (by rw[qCb]) (by kernel_rfl) (by kernel_rfl) rfl rfl
 have d:vu a= .agg U:=d
 have c:vu b= .agg V:=c
 rw[d,c]
 rw[Bool.and_true] at e
 exact e
structure KM (es:Array MapEntry) (c:Nat) (ks:List (Int × Int)):Prop where
 keys:es.toList.map (·.key)=ks.map vu
 vals:∀e∈es.toList,∃n,e.val= .int .i64 n
 born:(es.toList.map (·.born)).Nodup
 lt:∀e∈es.toList,e.born<c
def Jq(ks:List (Int × Int))(k:Int × Int):List (Int × Int):=if k∈ks then ks else ks++[k]
theorem wUa(c:Nat):KM #[] c []:=⟨rfl,λ_ h=>(by cases h),.nil,λ_ h=>by cases h⟩
theorem Vr:Tryz.prog.underlying 166=some (.map 90 3):=Tryz.underlying166
theorem y6a(w:World)(k:Int × Int):∀(es:List MapEntry) (ks:List (Int × Int)) (i:Nat),es.map (·.key)=ks.map vu->
  (k∉ks/\(Instr.findAsking 90 (vu k) es i).run Tryz.prog w= .ok none w)∨∃j e,es[j]? =some e/\e.key=vu k/\k∈ks/\(Instr.findAsking 90 (vu k) es i).run Tryz.prog w= .ok (some (i+j,e.val)) w
 | [],ks,i,h=>by
   cases ks with
   | nil=>exact .inl ⟨by simp,by simp[Instr.findAsking]⟩
   | cons a ks=>simp at h
 | e::es,[],i,h=>by simp at h
 | e::es,a::ks,i,h=>by
   rw[List.map_cons,List.map_cons] at h
   injection h with h1 h2
   have b:=wTa w k a
   by_cases d:k=a
   ·subst d
    refine .inr ⟨0,e,rfl,h1,.head _,?_⟩
    have:(k.1==k.1 && k.2==k.2)=true:=by simp
    rw[this] at b
    simp[Instr.findAsking,h1,b]
   ·have:(k.1==a.1 && k.2==a.2)=false:=by
     rw[jz]
     intro q
     rw[zq,beq_iff_eq,beq_iff_eq] at q
     exact d (Prod.ext q.1 q.2)
    rw[this] at b
    rcases y6a w k es ks (i+1) h2 with⟨f,c⟩|⟨j,x,f,c,l,g⟩
    ·refine .inl ⟨by simp[d,f],?_⟩
     simp[Instr.findAsking,h1,b,c]
    ·refine .inr ⟨j+1,x,f,c,.tail _ l,?_⟩
     simp[Instr.findAsking,h1,b,g]
     omega
theorem jda(w:World)(k:Int × Int){es:Array MapEntry}{c:Nat}{ks:List (Int × Int)}(h:KM es c ks):
  (k∉ks/\(Instr.findKey 90 (vu k) es.toList).run Tryz.prog w= .ok none w)∨∃j e,es.toList[j]? =some e/\e.key=vu k/\k∈ks/\(Instr.findKey 90 (vu k) es.toList).run Tryz.prog w= .ok (some (j,e.val)) w:=by
 obtain⟨m,l,g,_⟩:=zPa
 have a:(match Tryz.prog.underlying 90 with|some (.array _ _)|some (.struct _)=>true|_=>false)=true:=by rw[g]
 rw[run_findKey_eq w a]
 rcases y6a w k es.toList ks 0 h.keys with q|⟨j,e,i,b,f,d⟩
 ·exact .inl q
 ·exact .inr ⟨j,e,i,b,f,by rw[d,Nat.zero_add]⟩
theorem Vs(w:World):(zeroValue 3).run Tryz.prog w= .ok (.int .i64 0) w:=Tryz.zeroValue3 w
theorem QSa(w:World)(l:Nat)(k:Int × Int){es:Array MapEntry}{c:Nat}{ks:List (Int × Int)}(h:KM es c ks)(d:w.heap[l]? =some (.map es c)):
  ∃n,(Instr.lookup 166 (.map (some l)) (vu k) false).run Tryz.prog w= .ok (.int .i64 n) w:=by
 have b:=X5 w es.isEmpty k
 rcases jda w k h with⟨_,a⟩|⟨j,e,g,_,_,a⟩
 ·exact⟨0,by simp[Instr.lookup,run_underlying Vr,MapKept.run_getObj_map d,b,a,Vs,Result.andThen]⟩
 ·obtain⟨n,f⟩:=h.vals e (qq g)
  exact⟨n,by simp[Instr.lookup,run_underlying Vr,MapKept.run_getObj_map d,b,a,f,Result.andThen]⟩
theorem QTa(k:Int × Int):Instr.sameBits 10000 (vu k) (vu k)=true:=by
 unfold vu Instr.sameBits
 simp[Instr.sameBits]
theorem zQa(w:World)(l:Nat)(k:Int × Int){es:Array MapEntry}{c:Nat}{ks:List (Int × Int)}(h:KM es c ks)(g:w.heap[l]? =some (.map es c)):
  ∃es' c' n,∃st:Nat,(Instr.mapEntry 166 (.map (some l)) (vu k)).run Tryz.prog w= .ok (.tuple #[.int .i64 n,.int .i64 st]) { w with heap:=w.heap.setIfInBounds l (.map es' c') }/\KM es' c' (Jq ks k)/\∃e∈es'.toList,e.born=st:=by
 have t:=X5 w false k
 rcases jda w k h with⟨q,o⟩|⟨j,e,r,u,A,o⟩
 ·refine⟨es.push ⟨vu k,.int .i64 0,c⟩,c+1,0,c,?_,?_,⟨vu k,.int .i64 0,c⟩,by simp,rfl⟩
  ·simp[Instr.mapEntry,run_underlying Vr,MapKept.run_getObj_map g,t,o,Vs,MapKept.run_setObj_map _ g,Result.andThen,goInt]
  ·unfold Jq
   rw[if_neg q]
   refine⟨by simp[h.keys],λe d=>?_,?_,λe d=>?_⟩
   ·rw[Array.toList_push,zK,zW] at d
    rcases d with d|rfl
    ·exact h.vals e d
    ·exact⟨0,rfl⟩
   ·rw[Array.toList_push,zw,List.nodup_append]
    refine⟨h.born,by simp,λa z b s=>?_⟩
    obtain⟨x,y,rfl⟩:=zr.1 z
    simp at s
    subst s
    have:=h.lt x y
    omega
   ·rw[Array.toList_push,zK,zW] at d
    rcases d with d|rfl
    ·have:=h.lt e d;omega
    ·exact Nat.lt_succ_self c
 ·have v:es[j]? =some e:=by rw[<-qC];exact r
  obtain⟨n,q⟩:=h.vals e (qq r)
  have f:es.modify j (λe=>{ e with key:=vu k })=es:=by
   apply Array.ext_getElem?
   intro i
   rw[Array.getElem?_modify]
   split
   ·rename_i p
    subst p
    rw[v]
    simp[<-u]
   ·rfl
  have m:(Instr.keyThatStays (vu k) (vu k)).run Tryz.prog w= .ok (vu k) w:=by simp[Instr.keyThatStays,QTa]
  refine⟨es,c,n,e.born,?_,?_,e,qq r,rfl⟩
  ·simp[Instr.mapEntry,run_underlying Vr,MapKept.run_getObj_map g,t,o,v,u,m,f,q,MapKept.run_setObj_map _ g,Result.andThen,goInt]
  ·unfold Jq
   rw[if_pos A]
   exact h
theorem wVa(w:World)(l:Nat)(st:Nat)(n:Int){es:Array MapEntry}{c:Nat}{ks:List (Int × Int)}(h:KM es c ks)(m:w.heap[l]? =some (.map es c))(s:∃e∈es.toList,e.born=st):
  ∃es',(Instr.entryStore 166 (.map (some l)) (.int .i64 st) (.int .i64 n)).run Tryz.prog w= .ok () { w with heap:=w.heap.setIfInBounds l (.map es' c) }/\KM es' c ks/\∃e∈es'.toList,e.born=st:=by
 obtain⟨e,o,rfl⟩:=s
 obtain⟨j,r⟩:=List.getElem?_of_mem o
 have k:es.findIdx? (λx=>((x.born:Nat):Int)==((e.born:Nat):Int))=some j:=by
  rw[WideElems.findIdx_arr]
  exact WideElems.findIdx_born h.born r
 refine⟨es.modify j λx=>{ x with val:= .int .i64 n },?_,?_⟩
 ·simp[Instr.entryStore,MapKept.run_getObj_map m,asInt,asIntOf,k,MapKept.run_setObj_map _ m,Result.andThen]
 ·have a:∀ {β:Type} (f:MapEntry->β),(∀x:MapEntry,f { x with val:= .int .i64 n }=f x)->(es.modify j λx=>{ x with val:= .int .i64 n }).toList.map f=es.toList.map f:=λf q=>by
   apply qX
   intro i
   rw[zz,zz,qC,qC,Array.getElem?_modify]
   split
   ·cases es[i]? <;>simp[q]
   ·rfl
  have d:∀x∈(es.modify j λx=>{ x with val:= .int .i64 n }).toList,∃y∈es.toList,x=y∨x={ y with val:= .int .i64 n }:=λx g=>by
   obtain⟨i,hi⟩:=List.getElem?_of_mem g
   rw[qC,Array.getElem?_modify] at hi
   split at hi
   ·cases b:es[i]? with
    | none=>rw[b] at hi;cases hi
    | some y=>
      rw[b] at hi
      injection hi with hi
      exact⟨y,by simpa using Array.mem_of_getElem? b,.inr hi.symm⟩
   ·exact⟨x,by simpa using Array.mem_of_getElem? hi,.inl rfl⟩
  have p:e.born∈(es.modify j λx=>{ x with val:= .int .i64 n }).toList.map (·.born):=by rw[a _ λ_=>rfl];exact zr.2 ⟨e,o,rfl⟩
  refine⟨⟨by rw[a _ λ_=>rfl];exact h.keys,λx g=>?_,by rw[a _ λ_=>rfl];exact h.born,λx g=>?_⟩,zr.1 p⟩
  ·obtain⟨y,b,rfl|rfl⟩:=d x g
   ·exact h.vals _ b
   ·exact⟨n,rfl⟩
  ·obtain⟨y,b,rfl|rfl⟩:=d x g
   ·exact h.lt _ b
   ·exact h.lt y b
end Go.Proofs.YtigdlmpjijhpaaaGreat.Ax
namespace Go.Proofs.YtigdlmpjijhpaaaGreat.Ax
open Go Go.RowKit
def JC(P:Program)(N:Nat)(o:Oper)(K:Env->List Ob->Prop)(T:Env)(h:List Ob):Prop:=
 ∀ (φ:Nat->Ob),Upto φ h.length->∀(B:Bs) (w:World) (g:Gh) (a:Act),Rel N B w g (fill φ h) a T->∀(Q:Exit->Act->World->Prop) (next:Act->World->Prop),
   (∀c h' w' b,K c h'->Aft N B φ w g h c h' b w'->next b w')->o.wp P a w next Q
section
variable {P:Program} {N:Nat} {B:Bs} {ops:Array Oper} {T:Env} {h:List Ob} {K:Env->List Ob->Prop} {o:Oper}
theorem y7(a:vv N o=true)(k:qba P T h o K):JC P N o K T h:=λ_ b _ _ _ _ r _ _ c=>Kd b a (jEa k) r c
theorem QU(i:vv N o=true)(k:∀(φ:Nat->Ob),Upto φ h.length->∀(B:Nat) (w:World) (g:Gh) (a:Act),HOk B w g (fill φ h)->B<=w.heap.size->wU (ctx w g (fill φ h)) T a->
  ∃c v w' g' x h',(execOp a.eval o).run P w= .ok c w'/\(c= .value v∨(c= .skip/\v=undef))/\K (jc T o.dst x) h'/\ResK h h'/\Good B w g (fill φ h) w' g' (fill φ h')/\AR (ctx w' g' (fill φ h')) x v):JC P N o K T h:=λφ p B w g a r Q next j=>by
 obtain⟨c,v,w',g',x,h',n,m,e,f,d,l⟩:=k φ p B.b w g a r.ok r.hB r.t
 unfold Oper.wp
 rw[n]
 rcases m with rfl|⟨rfl,rfl⟩
 ·exact j _ _ _ _ e ⟨g',f,wV r d l i,d⟩
 ·exact j _ _ _ _ e ⟨g',f,wV r d l i,d⟩
theorem QUa{φ:Nat->Ob}{J:(Nat->Bool)->Env->List Ob->Prop}(d:Qk ops 0 ops.toList=true)(hg:∀(i:Nat) (o:Oper),ops[i]? =some o->o.guard=none)
  (step:∀(i:Nat) (o:Oper) (S:Nat->Bool) (T:Env) (h:List Ob),ops[i]? =some o->S i=false->(∀j∈vW o,S j=true)->J S T h->JC P N o (J λm=>if m=i then true else S m) T h) {Q:Exit->Act->World->Prop}:
  ∀ (b:Nat) (listed:Array Bool),listed.size=ops.size->((List.range ops.size).filter λi=> !listed.getD i false).length<=b->∀ {T:Env} {h:List Ob},J (λi=>listed.getD i false) T h->Upto φ h.length->∀ {w:World} {g:Gh} {a:Act},Rel N B w g (fill φ h) a T->
    (∀S u h' w' K,(∀i,i<ops.size->S i=true)->J S u h'->Aft N B φ w g h u h' K w'->Q .normal K w')->wpAny P .any ops Q b listed a w:=by
 have same:∀(listed:Array Bool) (i:Nat),listed.size=ops.size->i<ops.size->listed.getD i true=listed.getD i false:=λlisted i c hi=>by
  rw[zV,zV,qH (by omega)]
  rfl
 have all:∀listed:Array Bool,listed.size=ops.size->Region.ready .any ops listed=[]->∀i,i<ops.size->listed.getD i false=true:=by
  intro listed c C i hi
  cases L:listed.getD i false
  ·exfalso
   obtain⟨n,⟨v,G⟩,q⟩:=least (J:=λn=>n<ops.size/\listed.getD n false=false) ⟨i,hi,L⟩
   have:n∈Region.ready .any ops listed:=YI v (by rw[same listed n c v];exact G) (qH v) λj V=>by
    have y:=Z9 ops.toList 0 d n ops[n] (by simp[v]) j V
    rw[Nat.zero_add] at y
    cases I:listed.getD j false
    ·have:=q j ⟨by omega,I⟩
     omega
    ·rfl
   rw[C] at this
   cases this
  ·rfl
 intro b
 induction b with
 | zero=>
   intro listed c s T h k F w g a r x
   have M:∀i,i<ops.size->listed.getD i false=true:=λi hi=>by
    cases L:listed.getD i false
    ·have:i∈(List.range ops.size).filter λi=> !listed.getD i false:=zT.2 ⟨qW.2 hi,by simp[L]⟩
     have h0:((List.range ops.size).filter λi=> !listed.getD i false)=[]:=zF (by omega)
     rw[h0] at this
     cases this
    ·rfl
   refine⟨?_,x _ _ _ _ _ M k (.refl r)⟩
   rw[List.eq_nil_iff_forall_not_mem]
   intro i hi
   obtain⟨p,f,_⟩:=yy hi
   rw[same listed i c p,M i p] at f
   cases f
 | succ b Z=>
   intro listed c s T h k F w g a r x
   refine⟨λC=>x _ _ _ _ _ (all listed c C) k (.refl r),λi hi=>?_⟩
   obtain⟨p,f,o,E,h3⟩:=yy hi
   have l:listed.getD i false=false:=by rw[<-same listed i c p];exact f
   have A:=step i o _ T h E l h3 k
   unfold wpOp
   simp only[E]
   rw[if_pos (by simp[Region.wanted,hg i o E])]
   refine .inl (A φ F B w g a r _ _ λu h' w' K k' U=>?_)
   have W:=U
   obtain⟨g',X,q2,R⟩:=U
   refine Z _ (by simp[c]) ?_ (T:=u) (h:=h') ?_ (F.mono (ZC R)) q2 λS T2 f Y a2 z1 z2 z3=>x S T2 f Y a2 z1 z2 (z3.trans X R)
   ·have O:((List.range ops.size).filter λm=> !(listed.setIfInBounds i true).getD m false).length<((List.range ops.size).filter λm=> !listed.getD m false).length:=by
     have e:((List.range ops.size).filter λm=> !(listed.setIfInBounds i true).getD m false)=((List.range ops.size).filter λm=> !listed.getD m false).filter λm=> !(m==i):=by
      rw[List.filter_filter]
      refine List.filter_congr λm _=>?_
      rw[JV (by omega)]
      by_cases e:m=i
      ·simp[e]
      ·simp[e]
     rw[e]
     have t:i∈(List.range ops.size).filter λm=> !listed.getD m false:=zT.2 ⟨qW.2 p,by rw[l];rfl⟩
     have D:=qw (λm=> !(m==i)) ((List.range ops.size).filter λm=> !listed.getD m false)
     rcases Nat.lt_or_ge ((List.filter (λm=> !(m==i)) ((List.range ops.size).filter λm=> !listed.getD m false)).length) ((List.range ops.size).filter λm=> !listed.getD m false).length with H|z
     ·exact H
     ·have:=List.filter_eq_self.1 ((List.filter_sublist).eq_of_length (Nat.le_antisymm D z)) i t
      simp at this
    omega
   ·have:(λm=>(listed.setIfInBounds i true).getD m false)=λm=>if m=i then true else listed.getD m false:=by
     funext m
     rw[JV (by omega)]
    rw[this]
    exact k'
theorem WGa{id:Nat}{Q:xV}(q:P.follows .mixedOrders=true)(c:Qk ops 0 ops.toList=true)(v:∀(i:Nat) (o:Oper),ops[i]? =some o->o.guard=none)(J:(Nat->Bool)->Env->List Ob->Prop)(h0:J (λ_=>false) T h)
  (step:∀(i:Nat) (o:Oper) (S:Nat->Bool) (T:Env) (h:List Ob),ops[i]? =some o->S i=false->(∀j∈vW o,S j=true)->J S T h->JC P N o (J λm=>if m=i then true else S m) T h)
  (fin:∀S T h,(∀i,i<ops.size->S i=true)->J S T h->Q .normal T h):AWp P N B (.region id ops true) Q T h:=λφ u w g a r=>by
 have b:=Good.drew (g:=g) r.ok r.hB
 have l:Rel N B w.drew g (fill φ h) a T:=⟨b.ok,b.size,λi=>AR.le b.le _ _ (r.t i),r.d,r.n⟩
 refine wp_region_any q ?_
 refine QUa c v step ops.size (Array.replicate ops.size false) (by simp) ?_ ?_ u l λS e h' w' y f k ⟨g',x,p,s⟩=>⟨e,h',fin S e h' f k,g',x,p,b.trans s⟩
 ·have:=qw (λi=> !(Array.replicate ops.size false).getD i false) (List.range ops.size)
  rw[js] at this
  exact this
 ·have:(λi=>(Array.replicate ops.size false).getD i false)=λ_=>false:=by
   funext i
   rw[zV,Array.getElem?_replicate]
   split<;>rfl
  rw[this]
  exact h0
theorem Kva{φ:Nat->Ob}{Q:Exit->Act->World->Prop}{o:Oper}{l:List Oper}{w:World}{g:Gh}{a:Act}(e:Upto φ h.length)(d:o.guard=none)(r:Rel N B w g (fill φ h) a T)(k:JC P N o K T h)
  (next:∀c h' w' b,K c h'->Aft N B φ w g h c h' b w'->wpListIn Fence.wide 0 P ops Q l b w'):wpListIn Fence.wide 0 P ops Q (o::l) a w:=by
 unfold wpListIn
 rw[if_pos (by simp[Region.wanted,d])]
 exact Qv 0 (k φ e B w g a r _ _ next)
def y7a(P:Program)(N:Nat)(K:Env->List Ob->Prop):List Oper->Env->List Ob->Prop
 | [],T,h=>K T h
 | o::l,T,h=>o.guard=none/\JC P N o (y7a P N K l) T h
theorem QVa:y7a P N K [] T h=K T h:=id rfl
attribute [go_sem] QVa
theorem WN{φ:Nat->Ob}{Q:Exit->Act->World->Prop}{rest:List Oper}:∀(l:List Oper) {T:Env} {h:List Ob},y7a P N K l T h->Upto φ h.length->∀ {w:World} {g:Gh} {a:Act},Rel N B w g (fill φ h) a T->
  (∀c h' w' b,K c h'->Aft N B φ w g h c h' b w'->wpListIn Fence.wide 0 P ops Q rest b w')->wpListIn Fence.wide 0 P ops Q (l++rest) a w
 | [],T,h,k,d,w,g,a,r,next=>next _ _ _ _ k (.refl r)
 | o::l,T,h,⟨n,k⟩,d,w,g,a,r,next=>by
   refine Kva d n r k λc h' w' b k' ⟨g',q,m,e⟩=>?_
   exact WN l k' (d.mono (ZC e)) m λj p s a2 f i=>next j p s a2 f (i.trans q e)
theorem zRa{id:Nat}{Q:xV}(l rest:List Oper)(b:ops.toList=l++rest)(m:rest.all (vv N)=true)(k:y7a P N (wpR P ops (Q .normal) rest) l T h):AWp P N B (.region id ops false) Q T h:=λφ d w g a r=>by
 refine(wpIn_wide (n:=0)).1 (wpIn_region ?_)
 rw[List.range_eq_range', <-qF,wpOpsIn_eq_wpListIn ops.toList 0 (by simp),b]
 refine WN l k d r λs h' w' q k' ⟨g',p,j,c⟩=>?_
 exact Zu rest m (d.mono (ZC c)) (xYa _ k') j λi o t a2 e f=>⟨i,o,e,f.trans p c⟩
end
open Go.Proofs
set_option maxRecDepth 100000
section
variable {P:Program} {N:Nat} {B:Bs} {c:Code} {Q:xV} {T:Env} {h:List Ob}
theorem wWa{id j ty:Nat}(hi:h[id]? =some (.mapo []))(E:h[j]? =some (.box ty [.mp id]))(k:∀l k0,AWp P N B c Q T ((h.set id (.raw l (.map #[] k0) [] [])).set j (.box ty [.v (.map (some l))]))):AWp P N B c Q T h:=λφ S w g a r=>by
 have p:=qL (φ:=φ) hi rfl
 have I:=qL (φ:=φ) E rfl
 obtain⟨O,es,k0,l',U,L,X,Y⟩:=r.ok.ok _ _ p
 have F:l'=[]:=List.Perm.eq_nil L
 subst F
 have o:es.toList=[]:=X
 have o:es= #[]:=by simpa using o
 subst o
 have y:id≠j:=λe=>by rw[e,E] at hi;cases hi
 have M:=(zd.1 hi).1
 have A:w.grownBy w ((Ob.mapo []).blk g id):=⟨rfl,rfl,rfl,zo _,λ_ _ _=>rfl⟩
 have z:=Le.turn (g':=g) (o':= .raw (g.β id) (.map #[] k0) [] []) p rfl A (λ_ _=>rfl) (λ_ _=>rfl) (λb f=> .inl f) (λ_=>⟨rfl,λs D=>by cases D⟩)
 have J:Good B.b w g (fill φ h) w g ((fill φ h).set id (.raw (g.β id) (.map #[] k0) [] [])):=⟨r.ok.turn p A (λ_ _=>rfl) (λ_ _=>rfl) (λb f=> .inl f) z ⟨O,U,rfl⟩,z,Below.refl _ _,r.hB⟩
 have m:((fill φ h).set id (.raw (g.β id) (.map #[] k0) [] []))[j]? =some (.box ty [.mp id]):=by rw[zc y];exact I
 obtain⟨n1,vs,n2,u,q,n3,⟨_,n4⟩,n5⟩:=J.ok.ok _ _ m
 have n5:q=[]:=n5
 subst n5
 have n4:u= .map (some (g.β id)):=n4
 subst n4
 have C:w.grownBy w ((Ob.box ty [.mp id]).blk g j):=⟨rfl,rfl,rfl,zo _,λ_ _ _=>rfl⟩
 have x:=Le.turn (g':=g) (o':= .box ty [.v (.map (some (g.β id)))]) m rfl C (λ_ _=>rfl) (λ_ _=>rfl) (λb f=> .inl f) (λ_=>⟨rfl,λs D=>by cases D⟩)
 have V:Good B.b w g ((fill φ h).set id (.raw (g.β id) (.map #[] k0) [] [])) w g (((fill φ h).set id (.raw (g.β id) (.map #[] k0) [] [])).set j (.box ty [.v (.map (some (g.β id)))])):=⟨J.ok.turn m C (λ_ _=>rfl) (λ_ _=>rfl) (λb f=> .inl f) x ⟨n1,vs,n2,_,_,n3,rfl,rfl⟩,x,Below.refl _ _,r.hB⟩
 have G:=J.trans V
 rw[<-jj rfl, <-jj rfl] at G
 have H:ResK h ((h.set id (.raw (g.β id) (.map #[] k0) [] [])).set j (.box ty [.v (.map (some (g.β id)))])):=(qi hi rfl).trans (qi (by rw[zc y];exact E) rfl)
 exact wp_mono (k (g.β id) k0 φ (S.mono (by simp)) w g a ⟨G.ok,G.size,λi=>AR.le G.le _ _ (r.t i),r.d,r.n⟩) λe Z w' ⟨R,h',K,W⟩=>⟨R,h',K,W.trans H G⟩
end
section
variable {N:Nat} {T:Env} {h:List Ob} {K:Env->List Ob->Prop} {o:Oper}
theorem k9a{a:Act}{c:Ctx}(b:wU c T a){d:Nat}{u:Value}(e:T d= .v u):a.eval (.tmp d)=u:=Zm b (x:= .tmp d) e
theorem Xn{φ:Nat->Ob}{B:Nat}{w:World}{g:Gh}(a:HOk B w g (fill φ h)){id l:Nat}{ob:Obj}{ks us}(hi:h[id]? =some (.raw l ob ks us)):w.heap[l]? =some ob:=(a.ok _ _ (qL hi rfl)).2.1
theorem Jr{φ:Nat->Ob}{B:Nat}{w b:World}{g:Gh}(c:HOk B w g (fill φ h))(hB:B<=w.heap.size)(d:b=w∨b=w.drew){id l:Nat}{ob:Obj}(hi:h[id]? =some (.raw l ob [] []))(a:Obj):
  Good B w g (fill φ h) { b with heap:=b.heap.setIfInBounds l a } g (fill φ (h.set id (.raw l a [] []))):=by
 rw[jj rfl]
 rcases d with rfl|rfl
 ·exact Qt c hB (qL hi rfl) a
 ·exact(Good.drew c hB).trans (Qt (Good.drew c hB).ok (Good.drew c hB).size (qL hi rfl) a)
theorem wXa(m:vv N o=true){d id l:Nat}{es:Array MapEntry}{c:Nat}(f:o.op= .range 166 (.tmp d))(q:T d= .v (.map (some l)))(hi:h[id]? =some (.raw l (.map es c) [] []))
  (k:∀r,K (jc T o.dst (.v (.pointer (some ⟨r,0,none⟩)))) (h++[.raw r (.mapIter (some l) c #[] c) [] []])):JC Tryz.prog N o K T h:=QU m λφ p B w g a b hB s=>by
 have j:=Xn b hi
 have e:=k9a s q
 have n:=run_range_map (P:=Tryz.prog) w 166 _ _ l es c Vr j
 have i:=Yj (g:=g) b hB (.mapIter (some l) c #[] c) (ks:=[]) (us:=[]) rfl
 rw[<-jW p] at i
 refine⟨_,_,_,g,_,_,?_,.inl rfl,k w.heap.size,resK_app,i,rfl⟩
 obtain⟨dst,op,type,pos,after,guard⟩:=o
 simp only at f
 subst f
 simp only[execOp,e]
 simp[n]
theorem QWa(t:vv N o=true){d id i l r:Nat}{es:Array MapEntry}{c b c0:Nat}{seen:Array Nat}(k:o.op= .next (.tmp d) false)(u:T d= .v (.pointer (some ⟨r,0,none⟩)))(hi:h[id]? =some (.raw l (.map es c) [] []))(p:h[i]? =some (.raw r (.mapIter (some l) b seen c0) [] []))
  (f:∀x∈es.toList,x.born<b) (n:b<=c0)
  (k0:(leftOf es seen).size=0->K (jc T o.dst (.tup [.v (.bool false)])) h)
  (k1:∀e∈(leftOf es seen).toList,K (jc T o.dst (.tup [.v (.bool true),ofV e.key,ofV e.val])) (h.set i (.raw r (.mapIter (some l) b (seen.push e.born) c) [] []))):JC Tryz.prog N o K T h:=QU t λφ A B w g a j hB y=>by
 have e:=k9a y u
 rcases run_next_at (P:=Tryz.prog) w o.type r l b c0 seen es c (Xn j p) (Xn j hi) f n with⟨z0,m⟩|⟨x,s,z,q,m⟩
 ·refine⟨_,_,w,g,_,h,?_,.inl rfl,k0 z0,.refl,Good.refl j hB, #[.bool false],rfl,_,_,rfl,rfl,rfl⟩
  obtain⟨dst,op,type,pos,after,guard⟩:=o
  simp only at k
  subst k
  simp only[execOp,e]
  simp[m]
 ·refine⟨_,_,_,g,_,_,?_,.inl rfl,k1 x s,qi p rfl,Jr j hB q p _, #[.bool true,x.key,x.val],rfl,_,_,rfl,rfl,_,_,rfl,Yg _,_,_,rfl,Yg _,rfl⟩
  obtain⟨dst,op,type,pos,after,guard⟩:=o
  simp only at k
  subst k
  simp only[execOp,e]
  simp[m]
  rfl
theorem wYa(n:vv N o=true){d id i l r:Nat}{es:Array MapEntry}{c b:Nat}{seen:Array Nat}{x:MapEntry}(j:o.op= .entry (.tmp d))(s:T d= .v (.pointer (some ⟨r,0,none⟩)))(hi:h[id]? =some (.raw l (.map es c) [] []))(p:h[i]? =some (.raw r (.mapIter (some l) b (seen.push x.born) c) [] []))
  (m:x∈es.toList) (q:(es.toList.map (·.born)).Nodup) (k:K (jc T o.dst (.tup [ofV x.key,ofV x.val])) h):JC Tryz.prog N o K T h:=QU n λφ u B w g a f hB t=>by
 have e:=k9a t s
 have z:=run_entry_at (P:=Tryz.prog) w r l b seen es c x (Xn f p) (Xn f hi) m q
 refine⟨_,_,w,g,_,h,?_,.inl rfl,k,.refl,Good.refl f hB, #[x.key,x.val],rfl,_,_,rfl,Yg _,_,_,rfl,Yg _,rfl⟩
 obtain⟨dst,op,type,pos,after,guard⟩:=o
 simp only at j
 subst j
 simp only[execOp,e]
 simp[z]
theorem Kwa{a:Act}{c:Ctx}(l:wU c T a){d:Nat}{k:Int × Int}(e:T d= .ag [i64 k.1,i64 k.2]):a.eval (.tmp d)=vu k:=by
 have:=jV l (.tmp d)
 rw[show ev T (.tmp d)=T d from rfl,e] at this
 obtain⟨vs,h,_,_,j,f,_,_,i,b,g⟩:=this
 have f:_=Value.int .i64 k.1:=f
 have b:_=Value.int .i64 k.2:=b
 have g:_=([]:List Value):=g
 subst f b g
 subst i
 rw[h]
 unfold vu
 congr 1
 exact Array.toList_inj.1 j
theorem wZa(j:vv N o=true){d q id l:Nat}{es:Array MapEntry}{c:Nat}{ks:List (Int × Int)}{y:Int × Int}(f:o.op= .lookup 166 (.tmp d) (.tmp q) false)(s:T d= .v (.map (some l)))(p:T q= .ag [i64 y.1,i64 y.2])(hi:h[id]? =some (.raw l (.map es c) [] []))(m:KM es c ks)
  (k:∀n,K (jc T o.dst (i64 n)) h):JC Tryz.prog N o K T h:=QU j λφ t B w g a b hB i=>by
 have e:=k9a i s
 have r:=Kwa i p
 obtain⟨n,z⟩:=QSa w l y m (Xn b hi)
 refine⟨_,_,w,g,_,h,?_,.inl rfl,k n,.refl,Good.refl b hB,rfl⟩
 obtain⟨dst,op,type,pos,after,guard⟩:=o
 simp only at f
 subst f
 simp only[execOp,e,r]
 simp[z]
theorem vaa(p:vv N o=true){d q id l:Nat}{es:Array MapEntry}{c:Nat}{ks:List (Int × Int)}{y:Int × Int}(f:o.op= .mapEntry 166 (.tmp d) (.tmp q))(u:T d= .v (.map (some l)))(s:T q= .ag [i64 y.1,i64 y.2])(hi:h[id]? =some (.raw l (.map es c) [] []))(r:KM es c ks)
  (k:∀es' c' n (st:Nat),KM es' c' (Jq ks y)->(∃e∈es'.toList,e.born=st)->K (jc T o.dst (.tup [i64 n,i64 st])) (h.set id (.raw l (.map es' c') [] []))):JC Tryz.prog N o K T h:=QU p λφ x B w g a b hB i=>by
 have e:=k9a i u
 have t:=Kwa i s
 obtain⟨es',c',n,st,j,m,z3⟩:=zQa w l y r (Xn b hi)
 refine⟨_,_,_,g,_,_,?_,.inl rfl,k es' c' n st m z3,qi hi rfl,Jr b hB (.inl rfl) hi _, #[.int .i64 n,.int .i64 st],rfl,_,_,rfl,rfl,_,_,rfl,rfl,rfl⟩
 obtain⟨dst,op,type,pos,after,guard⟩:=o
 simp only at f
 subst f
 simp only[execOp,e,t]
 simp[j]
theorem vba(s:vv N o=true){d q x id l:Nat}{es:Array MapEntry}{c:Nat}{ks:List (Int × Int)}{st:Nat}{n:Int}(i:o.op= .entryStore 166 (.tmp d) (.tmp q) (.tmp x))(C:T d= .v (.map (some l)))(y:T q=i64 st)(j:T x=i64 n)(hi:h[id]? =some (.raw l (.map es c) [] []))(t:KM es c ks)(p:∃e∈es.toList,e.born=st)
  (k:∀es' u,KM es' c ks->(∃e∈es'.toList,e.born=st)->K (jc T o.dst u) (h.set id (.raw l (.map es' c) [] []))):JC Tryz.prog N o K T h:=QU s λφ D B w g a f hB b=>by
 have e:=k9a b C
 have z:=k9a b y
 have A:=k9a b j
 obtain⟨es',m,r,z3⟩:=wVa w l st n t (Xn f hi) p
 refine⟨.skip,undef,_,g,.v undef,_,?_,.inr ⟨rfl,rfl⟩,k es' _ r z3,qi hi rfl,Jr f hB (.inl rfl) hi _,rfl⟩
 obtain⟨dst,op,type,pos,after,guard⟩:=o
 simp only at i
 subst i
 simp only[execOp,e,z,A]
 simp[m]
end
open Go.Shelf Go.Lib Go.Sort
def z2b(x:Int × Int):List Value:=[.int .i64 x.1,.int .i64 x.2]
def jm(x:Int × Int):List AV:=[i64 x.1,i64 x.2]
theorem Kza{n:Nat}:∀l:List (Int × Int),qM n (l.map jm)=true
 | []=>rfl
 | s::l=>by
   rw[List.map_cons,qM,Kza l];rfl
def w1a(x y:Int × Int):Int:=QV (Lib.compareInt x.1 y.1) (Lib.compareInt x.2 y.2)
theorem KAa(x y:Int × Int):ltOf w1a x y=ltK x y:=by
 rw[Bool.eq_iff_iff,xG]
 unfold ltOf w1a QV Lib.compareInt
 by_cases a:x.1<y.1
 ·simp[a]
 ·by_cases b:y.1<x.1
  ·simp[a,b]
   omega
  ·by_cases c:x.2<y.2
   ·simp[a,b,c]
    omega
   ·by_cases d:y.2<x.2<;>(simp[a,b,c,d])
theorem klb:SWO (ltOf w1a):=
 { irrefl:=λx=>by rw[KAa,jz];intro q;rw[xG] at q;omega
   trans:=λx y z a b=>by rw[KAa,xG] at *; omega
   ntrans:=λx y z a b=>by
    rw[KAa,jz,Ne,xG] at*
    omega }
theorem WHa(h:List Ob)(id st:Nat)(l:List (Int × Int))(k:h[id]? =some (.row 90 2 (l.map jm) st))(n:l.length<1099511627776):
  ACalls Tryz.prog 99 [.tl id st,.fn (.func 100) [] []] h λr h'=>r= .tup []/\∃l':List (Int × Int),l'.Perm l/\(l'.Pairwise λa b=>ltOf w1a b a=false)/\h'=h.set id (.row 90 2 (l'.map jm) st):=by
 refine X1a z2b 2 (by decide) (λ_=>rfl) (ltOf w1a) (by kernel_rfl) (λl=>?_) ?_ ?_ h id st l k n
 ·refine⟨_,List.mergeSort_perm l (λa b=> !ltK b a),?_⟩
  have:=List.pairwise_mergeSort (le:=λa b:Int × Int=> !ltK b a) (λa b c p o=>by
   rw[Bool.not_eq_true',jz,Ne,xG] at *; omega) (λa b=>by
   rw[Bool.or_eq_true,Bool.not_eq_true',Bool.not_eq_true',jz,jz,Ne,Ne,xG,xG];omega) l
  exact this.imp λh=>by rw[KAa];simpa using h
 ·intro blk off cap d w j f g
  have m:∀args w,(callFunc 100 args).run Tryz.prog w= .ok (.enter 100 args) w:=enters_of Tryz.func100 (by kernel_rfl) rfl
  have e:=AnyQ.slices_SortFunc xba 2 Tryz.isAgg90 Tryz.sizeOf90 z2b (λ_=>rfl) (λx v i=>by simp[z2b] at i;rcases i with rfl|rfl<;>rfl) w1a klb 100 #[] blk off cap d w m (λ_ _ _ _ x y=>Kya x y _) j f g
  exact e
 ·intro A cap w
  have e:=AnyF.slices_SortFunc_none xba A cap (.func (.func 100) #[] #[]) w
  exact e
theorem WIa(x:AV):xA Tryz.prog 99 [.v (.slice none 0 0),x] (.tup []):=λh=>by
 refine⟨by kernel_rfl,⟨_,_,⟨rfl,rfl⟩,.refl⟩,?_⟩
 intro φ l B w g vs f hB a
 obtain⟨v1,k,rfl,d,j,i,rfl,_,c⟩:=a
 have c:i=[]:=c
 subst c
 have d:v1= .slice none 0 0:=d
 subst d
 have b:=AnyF.slices_SortFunc_none xba none 0 j w
 refine Calls.mono b ?_
 rintro e w' ⟨rfl,rfl⟩
 exact⟨_,_,_,_,rfl,⟨rfl,rfl⟩,.refl,Good.refl f hB, #[],rfl,rfl⟩
theorem vda{l l' ks:List (Int × Int)}(d:l'.Perm l)(e:l'.Pairwise λa b=>ltOf w1a b a=false)(i:l.Nodup)(g:ks.Pairwise λa b=>ltK a b=true)(f:∀z,z∈l↔z∈ks):l'=ks:=by
 refine y5a ?_ g λz=>(d.mem_iff).trans (f z)
 have c:l'.Nodup:=d.nodup_iff.2 i
 refine List.Pairwise.imp₂ ?_ e c
 intro a b j h
 rw[KAa,jz,Ne,xG] at j
 rw[xG]
 have:¬ (a.1=b.1/\a.2=b.2):=λq=>h (Prod.ext q.1 q.2)
 omega
theorem z3b(h:List Ob)(id st:Nat)(l ks:List (Int × Int))(c:h[id]? =some (.row 90 2 (l.map jm) st))(d:l.length<1099511627776)(k:l.Nodup)(g:ks.Pairwise λa b=>ltK a b=true)(f:∀z,z∈l↔z∈ks):
  ACalls Tryz.prog 99 [.tl id st,.fn (.func 100) [] []] h λr h'=>r= .tup []/\h'=h.set id (.row 90 2 (ks.map jm) st):=
 (WHa h id st l c d).mono λr h' ⟨e,l',m,j,i⟩=>⟨e,by rw[i,vda m j k g f]⟩
