/-
  Joined.
-/
import Derived.Test.YtfmldcilgbbimaaGreatK41
import Derived.Test.YtfmldcilgbbimaaGreatK42
import Derived.Test.YtfmldcilgbbimaaGreatK33
import Derived.Test.YtfmldcilgbbimaaGreatK39
import Derived.Test.YtfmldcilgbbimaaGreatK13
import Derived.WideKeyRuns
import Derived.WideKeyEntry
import Derived.Maps.RangeRun
import Derived.Test.YtfmldcilgbbimaaGreatK10
set_option linter.unusedSimpArgs false
set_option linter.unusedVariables false
namespace Go.Proofs.YtfmldcilgbbimaaGreat.Ax
open Go Go.Proofs
structure Bk where
 evs:List Ev
 shut:List Int
structure An where
 err:Int
 rows:List (RowV × List Flg)
 segs:List Seg
 bytes:List Int
def ja (e:Int):An:=⟨e,[],[],[]⟩
def KL (l:List Ev) (id:Int):List Ev:=l.eraseP λe=>e.id==id
def kR (l:List Ev) (x:Fx):List Ev:=(if qV x then KL l x.ev.id else l)++if jC x then [x.ev] else []
def qq (s:Setup) (l:List Ev) (x:Fx):List Ev × Int:=
 if (!jC x && !qV x) || (jC x && !ko s x.ev) then ([],80)
 else if !qV x && decide (Zx l x.ev.id≥0) then ([],130)
 else if qV x && decide (Zx l x.ev.id<0) then ([],131)
 else (zD (kR l x),0)
def ltK (a b:Int × Int):Bool:=decide (a.1<b.1) || (a.1==b.1 && decide (a.2<b.2))
theorem xn {a b:Int × Int}:ltK a b=true↔a.1<b.1∨(a.1=b.1/\a.2<b.2):=by simp[ltK]
def QA (a b:Int):List Int:=(List.range (b - a+1).toNat).map λ(i:Nat)=>a+(i:Int)
theorem JI {a b x:Int}:x∈QA a b↔a<=x/\x<=b:=by
 unfold QA
 rw[List.mem_map]
 constructor
 ·rintro ⟨i,c,rfl⟩
  rw[List.mem_range] at c
  omega
 ·rintro ⟨d,e⟩
  exact ⟨(x - a).toNat,by rw[List.mem_range];omega,by omega⟩
def wZ (s:Setup) (e:Ev):List (Int × Int):=(QA (wW s e.at_).1 (wW s e.at_).2).map λk=>(e.worker,k)
theorem wQa {s:Setup} {e:Ev} {k:Int × Int}:k∈wZ s e↔k.1=e.worker/\(wW s e.at_).1<=k.2/\k.2<=(wW s e.at_).2:=by
 unfold wZ
 rw[List.mem_map]
 constructor
 ·rintro ⟨i,c,rfl⟩
  exact ⟨rfl,JI.1 c⟩
 ·rintro ⟨a,b⟩
  exact ⟨k.2,JI.2 b,by rw[<-a]⟩
def Jf (s:Setup) (l:List Ev) (x:Fx):List (Int × Int):=(if (ZI l x.ev.id).2 && qV x then wZ s (ZI l x.ev.id).1 else [])++if jC x then wZ s x.ev else []
def zTa (k:Int × Int):List (Int × Int)->List (Int × Int)
 | []=>[k]
 | y::r=>if ltK k y then k::y::r else if k=y then y::r else y::zTa k r
def J8a (l:List (Int × Int)):List (Int × Int):=l.foldr zTa []
def jg (s:Setup) (l:List Ev) (x:Fx):List (Int × Int):=J8a (Jf s l x)
theorem WE {k z:Int × Int}:∀ {l:List (Int × Int)},z∈zTa k l↔z=k∨z∈l
 | []=>by simp[zTa]
 | y::r=>by
   unfold zTa
   split
   ·simp
   ·split
    ·rename_i h
     subst h
     simp
    ·rw[List.mem_cons,WE (l:=r),List.mem_cons]
     constructor<;>(rintro (h | h | h)<;>simp[h])
theorem QB {z:Int × Int}:∀ {l:List (Int × Int)},z∈J8a l↔z∈l
 | []=>Iff.rfl
 | k::l=>by
   show z∈zTa k (J8a l)↔_
   rw[WE,QB (l:=l),List.mem_cons]
theorem jEa {k:Int × Int}:∀ {l:List (Int × Int)},l.Pairwise (λa b=>ltK a b=true)->(zTa k l).Pairwise λa b=>ltK a b=true
 | [],_=>by simp[zTa]
 | y::r,h=>by
   obtain ⟨g,i⟩:=List.pairwise_cons.1 h
   unfold zTa
   split
   ·rename_i d
    refine List.pairwise_cons.2 ⟨λz c=>?_,h⟩
    rcases List.mem_cons.1 c with rfl | c
    ·exact d
    ·have:=g z c
     rw[xn] at*
     omega
   ·split
    ·exact h
    ·rename_i d e
     refine List.pairwise_cons.2 ⟨λz c=>?_,jEa i⟩
     rcases WE.1 c with rfl | c
     ·rw[Bool.not_eq_true] at d
      have:¬ (z.1<y.1∨(z.1=y.1/\z.2<y.2)):=λq=>by rw[xn.2 q] at d;cases d
      rw[xn]
      have f:¬ (z.1=y.1/\z.2=y.2):=λq=>e (Prod.ext q.1 q.2)
      omega
     ·exact g z c
theorem WF:∀(l:List (Int × Int)),(J8a l).Pairwise λa b=>ltK a b=true
 | []=> .nil
 | k::l=>jEa (WF l)
theorem vpa:∀ {a b:List (Int × Int)},a.Pairwise (λx y=>ltK x y=true)->b.Pairwise (λx y=>ltK x y=true)->(∀z,z∈a↔z∈b)->a=b
 | [],[],_,_,_=>rfl
 | [],y::b,_,_,h=>by have:=(h y).2 (.head _);cases this
 | x::a,[],_,_,h=>by have:=(h x).1 (.head _);cases this
 | x::a,y::b,g,k,h=>by
   obtain ⟨a1,a2⟩:=List.pairwise_cons.1 g
   obtain ⟨b1,b2⟩:=List.pairwise_cons.1 k
   have e:x=y:=by
    rcases List.mem_cons.1 ((h x).1 (.head _)) with q | q
    ·exact q
    ·rcases List.mem_cons.1 ((h y).2 (.head _)) with f | f
     ·exact f.symm
     ·have:=b1 x q
      have:=a1 y f
      rw[xn] at*
      omega
   subst e
   congr 1
   refine vpa a2 b2 λz=>?_
   have d:∀ {l:List (Int × Int)},(∀y∈l,ltK x y=true)->x∉l:=λj i=>by
    have:=j x i
    rw[xn] at this
    omega
   constructor
   ·intro c
    rcases List.mem_cons.1 ((h z).1 (.tail _ c)) with rfl | q
    ·exact absurd c (d a1)
    ·exact q
   ·intro c
    rcases List.mem_cons.1 ((h z).2 (.tail _ c)) with rfl | q
    ·exact absurd c (d b1)
    ·exact q
def QC (n:Int):List Int->List Int
 | []=>[n]
 | y::r=>if n<=y then n::y::r else y::QC n r
def qB (l:List Int) (w:Int):Bool:=l.any (w== ·)
theorem yY {l:List Int} {w:Int}:qB l w=true↔w∈l:=by
 unfold qB
 rw[List.any_eq_true]
 constructor
 ·rintro ⟨x,b,a⟩
  rw[beq_iff_eq] at a
  subst a
  exact b
 ·intro h
  exact ⟨w,h,by simp⟩
def JL (s:Setup) (b:Bk) (x:Fx):Int:=
 qH (qH (qH 0 ((qq s b.evs x).2==0) (qq s b.evs x).2) (decide (((qq s b.evs x).1.length:Int)<=200)) 210) (!(jg s b.evs x).any λk=>qB b.shut k.2) 211
def Kf (s:Setup) (b:Bk) (x:Fx):Bk × An:=(if JL s b x==0 then ⟨(qq s b.evs x).1,b.shut⟩ else b,ja (JL s b x))
def ju (s:Setup) (b:Bk) (wk:Int):List (RowV × List Flg):=(List.range s.rates.length).map λ(w:Nat)=>zW s b.evs (w:Int) wk
def doP (s:Setup) (b:Bk) (q:Cm):Bk × An:=
 if q.kind=1 then Kf s b ⟨1,q.fx.ev⟩
 else if q.kind=2 then Kf s b q.fx
 else if q.kind=3 then (b,if ZQ s 0 q==0 then ⟨0,[zW s b.evs q.worker q.week],[],[]⟩ else ja (ZQ s 0 q))
 else if q.kind=4 then (b,if jD s q then ⟨0,[],(zM s b.evs q.worker).1,[]⟩ else ja 80)
 else if q.kind=5 then (if Qz q && !qB b.shut q.week then (⟨b.evs,QC q.week b.shut⟩,ja 0) else (b,ja 212))
 else if q.kind=6 then (if qB b.shut q.week then (⟨b.evs,b.shut.filter λw=> !(w==q.week)⟩,ja 0) else (b,ja 212))
 else if q.kind=7 then (b,if qB b.shut q.week then ⟨0,ju s b q.week,[],(kw (ju s b q.week)).1⟩ else ja 212)
 else if q.kind=8 then (b,ja 0)
 else (b,ja 240)
def xI (s:Setup):Bk->List Cm->Bk × List An
 | b,[]=>(b,[])
 | b,q::l=>((xI s (doP s b q).1 l).1,(doP s b q).2::(xI s (doP s b q).1 l).2)
structure BkI (s:Setup) (b:Bk):Prop where
 few:b.evs.length<=200
 srt:Srt b.evs
 ids:(b.evs.map (·.id)).Nodup
 ok:∀e∈b.evs,ko s e=true
 rise:b.shut.Pairwise (· < ·)
 rng:∀w∈b.shut,0<=w/\w<=52
theorem WG {e:Int} {c:Bool} {d:Int} (b:d≠0):qH e c d=0↔e=0/\c=true:=by
 unfold qH
 cases c
 ·by_cases a:e=0
  ·subst a;simp[b]
  ·have:(e==0)=false:=by simpa using a
   simp[this,a]
 ·simp
theorem WH {n z:Int}:∀ {l:List Int},z∈QC n l↔z=n∨z∈l
 | []=>by simp[QC]
 | y::r=>by
   unfold QC
   split
   ·simp
   ·rw[List.mem_cons,WH (l:=r),List.mem_cons]
    constructor<;>(rintro (h | h | h)<;>simp[h])
theorem Kg {n:Int}:∀ {l:List Int},n∉l->l.Pairwise (· < ·)->(QC n l).Pairwise (· < ·)
 | [],_,_=>by simp[QC]
 | y::r,c,h=>by
   obtain ⟨b,d⟩:=List.pairwise_cons.1 h
   have e:n≠y:=λq=>c (by rw[q];exact .head _)
   unfold QC
   split
   ·refine List.pairwise_cons.2 ⟨λz a=>?_,h⟩
    rcases List.mem_cons.1 a with rfl | a
    ·omega
    ·have:=b z a;omega
   ·refine List.pairwise_cons.2 ⟨λz a=>?_,Kg (λq=>c (.tail _ q)) d⟩
    rcases WH.1 a with rfl | a
    ·omega
    ·exact b z a
theorem YX (n:Int):∀l:List Int,(QC n l).Perm (n::l)
 | []=> .refl _
 | y::r=>by
   unfold QC
   split
   ·exact .refl _
   ·exact (List.Perm.cons y (YX n r)).trans (List.Perm.swap n y r)
theorem QD {s:Setup} {l:List Ev} {x:Fx} (h:(qq s l x).2=0):qq s l x=(zD (kR l x),0)/\(jC x=true∨qV x=true)/\(jC x=true->ko s x.ev=true)/\
  ((qV x=false/\jC x=true/\∀e∈l,e.id≠x.ev.id)∨(qV x=true/\∃A y R,l=A++y::R/\ZI l x.ev.id=(y,true)/\y.id=x.ev.id/\KL l x.ev.id=A++R/\Zx l x.ev.id=(A.length:Int))):=by
 unfold qq at h⊢
 split at h
 ·cases h
 ·rename_i w
  split at h
  ·cases h
  ·rename_i m
   split at h
   ·cases h
   ·rename_i n
    rw[if_neg w,if_neg m,if_neg n]
    have f:¬ (jC x=false/\qV x=false)/\¬ (jC x=true/\ko s x.ev=false):=by
     cases c:jC x<;>cases b:qV x<;>cases k:ko s x.ev<;>simp_all
    refine ⟨rfl,?_,?_,?_⟩
    ·cases c:jC x<;>cases b:qV x<;>simp_all
    ·intro c
     cases k:ko s x.ev
     ·exact absurd ⟨c,k⟩ f.2
     ·rfl
    ·have c:qV x=false->jC x=true:=λb=>by
      cases c:jC x
      ·exact absurd ⟨c,b⟩ f.1
      ·rfl
     cases b:qV x
     ·refine .inl ⟨rfl,c b,?_⟩
      rw[b] at m
      have m:¬ (0:Int)<=Zx l x.ev.id:=by simpa using m
      rcases Ka l x.ev.id with ⟨_,d⟩ | ⟨A,y,R,_,d,_⟩
      ·intro e k hid
       unfold ZI at d
       cases p:l.find? (λe=>e.id==x.ev.id) with
       | none=>have:=List.find?_eq_none.1 p e k;simp[hid] at this
       | some z=>rw[p] at d;cases d
      ·omega
     ·refine .inr ⟨rfl,?_⟩
      rw[b] at n
      have n:¬ Zx l x.ev.id<0:=by simpa using n
      rcases Ka l x.ev.id with ⟨j,_⟩ | ⟨A,y,R,j,d,v,q⟩
      ·omega
      ·refine ⟨A,y,R,j,v,q,?_,d⟩
       have u:∀a∈A,(a.id==x.ev.id)=false:=λa o=>by
        rcases Ql (λe=>e.id==x.ev.id) l with ⟨i,_⟩ | ⟨t,y',B,i,r,z3,z4⟩
        ·have i:Zx l x.ev.id= -1:=i
         omega
        ·have r:Zx l x.ev.id=(t.length:Int):=r
         have g:A.length=t.length:=by omega
         have:=List.append_inj_left (j.symm.trans i) g
         subst this
         exact z4 a o
       unfold KL
       rw[j,List.eraseP_append_right _ (λa o=>by simp[u a o]),List.eraseP_cons_of_pos (by simp[q])]
theorem Qga {l A R:List Ev} {y e:Ev} (h:l=A++y::R) (a:e∈A++R):e∈l:=by
 subst h
 rcases List.mem_append.1 a with a | a
 ·exact List.mem_append_left _ a
 ·exact List.mem_append_right _ (.tail _ a)
theorem kma {l A R:List Ev} {y:Ev} (h:l=A++y::R) (c:(l.map (·.id)).Nodup):((A++R).map (·.id)).Nodup/\∀e∈A++R,e.id≠y.id:=by
 subst h
 have a:((y::(A++R)).map (·.id)).Nodup:=(List.Perm.nodup_iff (List.Perm.map _ List.perm_middle)).1 c
 rw[List.map_cons,List.nodup_cons] at a
 exact ⟨a.2,λe b q=>a.1 (List.mem_map.2 ⟨e,b,q⟩)⟩
theorem jFa {s:Setup} {l:List Ev} {x:Fx} (h:(qq s l x).2=0) (i:(l.map (·.id)).Nodup) (g:∀e∈l,ko s e=true):((kR l x).map (·.id)).Nodup/\∀e∈kR l x,ko s e=true:=by
 obtain ⟨_,_,m,q⟩:=QD h
 have key:∀K:List Ev,(K.map (·.id)).Nodup->(∀e∈K,ko s e=true)->(∀e∈K,e.id≠x.ev.id)->((K++if jC x then [x.ev] else []).map (·.id)).Nodup/\∀e∈K++(if jC x then [x.ev] else []),ko s e=true:=λK k1 k2 k3=>by
  cases j:jC x
  ·simpa using ⟨k1,k2⟩
  ·simp only[if_true]
   refine ⟨?_,λe c=>?_⟩
   ·rw[List.map_append,List.nodup_append]
    refine ⟨k1,by simp,λa n b k=>?_⟩
    obtain ⟨e,c,rfl⟩:=List.mem_map.1 n
    simp at k
    subst k
    exact k3 e c
   ·rcases List.mem_append.1 c with c | c
    ·exact k2 e c
    ·rw[List.mem_singleton] at c
     subst c
     exact m j
 unfold kR
 rcases q with ⟨d,j,hid⟩ | ⟨d,A,y,R,f,r,p,o,_⟩
 ·rw[d]
  exact key l i g hid
 ·rw[d]
  simp only[if_true]
  rw[o]
  obtain ⟨n1,n2⟩:=kma f i
  exact key _ n1 (λe c=>g e (Qga f c)) λe c=>by rw[<-p];exact n2 e c
theorem Kh {s:Setup} {b:Bk} {x:Fx}:JL s b x=0↔(qq s b.evs x).2=0/\(qq s b.evs x).1.length<=200/\∀k∈jg s b.evs x,k.2∉b.shut:=by
 unfold JL
 rw[WG (by decide),WG (by decide)]
 have e:qH 0 ((qq s b.evs x).2==0) (qq s b.evs x).2=(qq s b.evs x).2:=by
  unfold qH
  by_cases h:(qq s b.evs x).2=0
  ·simp[h]
  ·have:((qq s b.evs x).2==0)=false:=by simpa using h
   simp[this]
 rw[e,decide_eq_true_eq,Bool.not_eq_true',List.any_eq_false]
 constructor
 ·rintro ⟨⟨a,f⟩,d⟩
  exact ⟨a,by omega,λk c q=>d k c (yY.2 q)⟩
 ·rintro ⟨a,f,d⟩
  exact ⟨⟨a,by omega⟩,λk c q=>d k c (yY.1 q)⟩
theorem jGa {s:Setup} {b:Bk} {x:Fx} (h:BkI s b):BkI s (Kf s b x).1:=by
 unfold Kf
 by_cases h0:JL s b x=0
 ·obtain ⟨c,a,i⟩:=Kh.1 h0
  simp only[h0,beq_self_eq_true,if_true]
  obtain ⟨g,_⟩:=QD c
  obtain ⟨n1,n2⟩:=jFa c h.ids h.ok
  have d:=jJ (kR b.evs x)
  rw[g] at a⊢
  exact ⟨a,jW _,(List.Perm.nodup_iff (List.Perm.map _ d)).2 n1,λe f=>n2 e (d.mem_iff.1 f),h.rise,h.rng⟩
 ·have:(JL s b x==0)=false:=by simpa using h0
  simp only[this,Bool.false_eq_true,if_false]
  exact h
theorem wRa {q:Cm}:Qz q=true↔0<=q.week/\q.week<=52:=by
 unfold Qz
 simp
theorem vqa {s:Setup} {b:Bk} (q:Cm) (h:BkI s b):BkI s (doP s b q).1:=by
 unfold doP
 split
 ·exact jGa h
 ·split
  ·exact jGa h
  ·split
   ·exact h
   ·split
    ·exact h
    ·split
     ·split
      ·rename_i c
       rw[Bool.and_eq_true,Bool.not_eq_true'] at c
       have e:=wRa.1 c.1
       have d:q.week∉b.shut:=λf=>by rw[yY.2 f] at c;cases c.2
       exact ⟨h.few,h.srt,h.ids,h.ok,Kg d h.rise,λw a=>by
        rcases WH.1 a with rfl | a
        ·exact e
        ·exact h.rng w a⟩
      ·exact h
     ·split
      ·split
       ·exact ⟨h.few,h.srt,h.ids,h.ok,h.rise.filter _,λw e=>h.rng w (List.mem_filter.1 e).1⟩
       ·exact h
      ·split
       ·exact h
       ·split
        ·exact h
        ·exact h
theorem jHa {s:Setup}:∀(l:List Cm) {b:Bk},BkI s b->BkI s (xI s b l).1
 | [],_,h=>h
 | q::l,_,h=>jHa l (vqa q h)
def zUa:Bk:=⟨[],[]⟩
theorem wSa (s:Setup):BkI s zUa:=⟨by decide,trivial,.nil,λ_ h=>(by cases h),.nil,λ_ h=>by cases h⟩
theorem jIa {s:Setup}:∀(l:List Cm) {b:Bk},(xI s b l).2.length=l.length
 | [],_=>rfl
 | q::l,_=>by simp[xI,jIa l]
theorem jJa {s:Setup}:∀(a l:List Cm) {b:Bk},xI s b (a++l)=((xI s (xI s b a).1 l).1,(xI s b a).2++(xI s (xI s b a).1 l).2)
 | [],l,b=>rfl
 | q::a,l,b=>by
   rw[List.cons_append,xI,jJa a l]
   rfl
theorem wTa {A R:List Ev} {y:Ev}:(A++y::R).Perm (y::(A++R)):=List.perm_middle
theorem J9a {s:Setup} {b:Bk} {x:Fx} (g:BkI s b) (h:(qq s b.evs x).2=0) {w wk:Int} (r:(w,wk)∉Jf s b.evs x):zW s (zD (kR b.evs x)) w wk=zW s b.evs w wk:=by
 obtain ⟨_,_,v,C⟩:=QD h
 obtain ⟨n1,n2⟩:=jFa h g.ids g.ok
 have d:∀e:Ev,ko s e=true->(w,wk)∉wZ s e->e.worker=w->ko s e=true->zw s=true->Out s e.at_ wk:=λe o m B _ u=>
  KZa u (yq (yM o)).2.2.2.1 λq=>m (wQa.2 ⟨B.symm,q⟩)
 have f:jC x=true->(w,wk)∉wZ s x.ev:=λj q=>r (List.mem_append_right _ (by rw[j];exact q))
 have j:=jJ (kR b.evs x)
 rw[Kd j ((List.Perm.nodup_iff (List.Perm.map _ j)).2 n1)]
 have more:∀K:List Ev,((K++if jC x then [x.ev] else []).map (·.id)).Nodup->zW s (K++if jC x then [x.ev] else []) w wk=zW s K w wk:=λK k=>by
  cases c:jC x
  ·simp
  ·rw[c] at k
   simp only[if_true] at k⊢
   have a:(K++[x.ev]).Perm (x.ev::K):=List.perm_append_comm
   rw[Kd a k]
   exact YU ((List.Perm.nodup_iff (List.Perm.map _ a)).1 k) (d x.ev (v c) (f c))
 unfold kR at n1⊢
 rcases C with ⟨i,c,hid⟩ | ⟨i,A,y,R,p,z,D,t,_⟩
 ·rw[i] at n1⊢
  simp only[Bool.false_eq_true,if_false] at n1⊢
  exact more _ n1
 ·rw[i] at n1⊢
  simp only[if_true] at n1⊢
  rw[more _ n1,t]
  have a:b.evs.Perm (y::(A++R)):=by rw[p];exact wTa
  rw[Kd (l:=b.evs) a g.ids]
  have n:(w,wk)∉wZ s y:=λq=>r (List.mem_append_left _ (by rw[z,i];exact q))
  exact (YU ((List.Perm.nodup_iff (List.Perm.map _ a)).1 g.ids) (d y (g.ok y (by rw[p];simp)) n)).symm
theorem Qha {s:Setup} {b:Bk} {x:Fx} (d:BkI s b) {w wk:Int} (c:JL s b x=0->(w,wk)∉jg s b.evs x):zW s (Kf s b x).1.evs w wk=zW s b.evs w wk:=by
 unfold Kf
 by_cases h0:JL s b x=0
 ·obtain ⟨a,_⟩:=Kh.1 h0
  simp only[h0,beq_self_eq_true,if_true]
  rw[(QD a).1]
  exact J9a d a λq=>c h0 (QB.2 q)
 ·have:(JL s b x==0)=false:=by simpa using h0
  simp only[this,Bool.false_eq_true,if_false]
theorem K8a {s:Setup} {b:Bk} (d:BkI s b) (q:Cm) {w wk:Int} (h:wk∈b.shut):zW s (doP s b q).1.evs w wk=zW s b.evs w wk:=by
 have a:∀x,zW s (Kf s b x).1.evs w wk=zW s b.evs w wk:=λx=>Qha d λh0 c=>(Kh.1 h0).2.2 _ c h
 unfold doP
 split
 ·exact a _
 ·split
  ·exact a _
  ·split
   ·rfl
   ·split
    ·rfl
    ·split
     ·split<;>rfl
     ·split
      ·split<;>rfl
      ·split
       ·rfl
       ·split<;>rfl
end Go.Proofs.YtfmldcilgbbimaaGreat.Ax
namespace Go.Proofs.YtfmldcilgbbimaaGreat.Ax
open Go Go.Proofs Go.RowKit
set_option maxRecDepth 100000
theorem jKa {c:Ctx}:∀ {vs us:List Value},ARs c (vs.map .v) us->us=vs
 | [],_,h=>h
 | v::vs,_,⟨u,r,b,a,d⟩=>by
   have a:u=v:=a
   rw[b,a,jKa d]
def Xaa (e:Ev):List Value:=[.int .i64 e.id,.int .i64 e.worker,.int .i64 e.at_,.int .i64 e.kind,.int .i64 e.from_,.int .i64 e.to_,.int .i64 e.element,.int .i64 e.units,.int .i64 e.class_,.int .i64 e.gear,.int .i64 e.code]
def kz (l:List Ev):List Value:=(l.map Xaa).flatten
theorem Q1:∀l:List Ev,(kz l).length=l.length*11
 | []=>rfl
 | e::l=>by
   have:=Q1 l
   unfold kz at*
   rw[List.map_cons,List.flatten_cons,List.length_append,this,List.length_cons]
   show 11+_=_
   omega
theorem Ki (a b:List Ev):kz (a++b)=kz a++kz b:=by unfold kz;rw[List.map_append,List.flatten_append]
theorem WI:∀l:List Ev,(l.map evC).flatten=(kz l).map .v
 | []=>rfl
 | e::l=>by
   have:=WI l
   unfold kz at*
   rw[List.map_cons,List.map_cons,List.flatten_cons,List.flatten_cons,List.map_append,this]
   rfl
theorem wUa (l:List Ev):∀v∈kz l,v.oneCell'=true:=λv a=>by
 unfold kz at a
 obtain ⟨L,b,a⟩:=List.mem_flatten.1 a
 obtain ⟨e,_,rfl⟩:=List.mem_map.1 b
 unfold Xaa at a
 simp only[List.mem_cons,List.not_mem_nil,or_false] at a
 rcases a with rfl | rfl | rfl | rfl | rfl | rfl | rfl | rfl | rfl | rfl | rfl<;>rfl
theorem WTa:∃z,(∀w,(zeroValue 73).run Tryz.prog w= .ok z w)/\z.cells.size=11/\∀u∈z.cells.toList,u.oneCell'=true:=
 ⟨_,Tryz.zeroValue73,rfl,λu a=>by
  simp[Value.cells] at a
  rw[a]
  rfl⟩
theorem WUa:∃i,Tryz.prog.info? 73=some i/\i.size=11:=by
 have h:(Tryz.prog.info? 73).map (λi=>i.size)=some 11:=by kernel_rfl
 cases a:Tryz.prog.info? 73 with
 | none=>rw[a] at h;cases h
 | some i=>
   rw[a] at h
   injection h with h
   exact ⟨i,rfl,h⟩
theorem WVa (h:List Ob) (id st:Nat) (P:List Ev) (y:Ev) (R:List Ev) (W:h[id]? =some (qb (P++y::R) st)):
  ACalls Tryz.prog 88 [.tl id st,i64 P.length,i64 ((P.length:Int)+1)] h λr h'=>r= .tl id (st+1)/\h'=h.set id (qb (P++R) (st+1)):=by
 refine ⟨by kernel_rfl,⟨_,_,⟨rfl,rfl⟩,zC W rfl⟩,λφ D B w g vs hh hB d=>?_⟩
 have m:=zN (φ:=φ) W rfl
 obtain ⟨v1,r1,rfl,h1,v2,r2,rfl,h2,v3,r3,rfl,h3,hr⟩:=d
 have hr:r3=[]:=hr
 have h2:v2= .int .i64 (P.length:Int):=h2
 have h3:v3= .int .i64 ((P.length:Int)+1):=h3
 have V:=ZU h1 m
 subst hr h2 h3 V
 obtain ⟨_,_,cells,q2,X⟩:=hh.ok _ _ m
 rw[WI] at X
 have X:=jKa X
 subst X
 obtain ⟨n,hn⟩:∃n,n=(P++y::R).length:=⟨_,rfl⟩
 have hnl:n=P.length+1+R.length:=by rw[hn];simp;omega
 have e0:((P++y::R).map evC).length=n:=by rw[List.length_map,hn]
 rw[e0] at q2
 rcases q2.2 with ⟨_,L⟩ | ⟨a,cap,cur,L,e2,e3,e4,e5,Y,e7⟩
 ·omega
 ·have L:g.cur id= .slice (some ⟨a,0,none⟩) n cap:=L
  obtain ⟨j,hj⟩:∃j,j=P.length+1:=⟨_,rfl⟩
  have v:kz (P++y::R)=kz P++Xaa y++kz R:=by
   rw[show P++y::R=P++[y]++R by simp,Ki,Ki]
   congr 2
  have l1:=Q1 P
  have l2:=Q1 R
  have ly:(Xaa y).length=11:=rfl
  have hcl:n*11<=cur.size:=by rw[Y];exact Nat.mul_le_mul_right _ e4
  have H:cur.toList.take (P.length*11)=kz P:=by
   have:cur.toList.take (P.length*11)=(cur.toList.take (n*11)).take (P.length*11):=by rw[List.take_take,Nat.min_eq_left (by omega)]
   rw[this,e7,v,List.append_assoc,List.take_append_of_le_length (by omega),List.take_of_length_le (by omega)]
  have J:(cur.toList.drop (j*11)).take (R.length*11)=kz R:=by
   have:(cur.toList.drop (j*11)).take (R.length*11)=(cur.toList.take (n*11)).drop (j*11):=by
    rw[List.drop_take]
    congr 1
    omega
   rw[this,e7,v,List.drop_append_of_le_length (by rw[List.length_append];omega),List.drop_of_length_le (by rw[List.length_append];omega),List.nil_append]
  have Q:w.drew.heap[a]? =some (.cells cur 73 (0,0)):=e3
  obtain ⟨A,hA,M⟩:∃A:Addr,(if cap=j then (some ⟨a,0,none⟩:Option Addr) else some ⟨a,j*11,none⟩)=some A/\∀k u,(kz R)[k]? =some u->w.drew.cell? (A.add k)=some u:=by
   by_cases hc:cap=j
   ·refine ⟨_,by rw[if_pos hc],λk u D=>?_⟩
    have:(kz R).length=0:=by omega
    rw[List.eq_nil_of_length_eq_zero this] at D
    cases D
   ·refine ⟨_,by rw[if_neg hc],λk u D=>?_⟩
    have hk:=(List.getElem?_eq_some_iff.1 D).1
    rw[<-J,List.getElem?_take,if_pos (by omega),List.getElem?_drop,Array.getElem?_toList] at D
    rw[Addr.add_lit]
    unfold World.cell?
    rw[Q]
    exact D
  obtain ⟨ii,Z,I⟩:=WUa
  obtain ⟨z,z1,z2,z3⟩:=WTa
  have f:=KQ (P:=Tryz.prog) w.drew 31 31 73 ii Tryz.underlying31 Z a _ cur Q P.length cap A (n - j) (cap - j) (kz R) (by rw[I];omega) M (wUa R) (by omega) (by rw[I];omega)
  rw[I] at f
  obtain ⟨c,E⟩:∃c,c=ZR cur (P.length*11) (kz R):=⟨_,rfl⟩
  rw[<-E] at f
  have i:c.size=cur.size:=by rw[E,K8 (by omega)]
  have O:=setRow_heap w.drew a cur c _ _ Q
  have N:∀ty,(Builtin.clear_ #[31] ty #[.slice (some ⟨a,(P.length+(n - j))*11,none⟩) (n - (P.length+(n - j))) (cap - (P.length+(n - j)))]).run Tryz.prog (w.drew.setRow a c)= .ok (.tuple #[]) ((w.drew.setRow a c).setRow a (ZR c ((P.length+(n - j))*11) z.cells.toList)):=λty=>by
   have:=K9 (P:=Tryz.prog) (w.drew.setRow a c) 31 ty 73 z Tryz.underlying31 z1 a _ c O ((P.length+(n - j))*11) (cap - (P.length+(n - j))) z3 (by rw[z2,i];omega)
   rw[show n - (P.length+(n - j))=1 by omega]
   exact this
  have o:=Yla a cap P.length j n cur w e3 e4 e5 (by rw[Y]) hj.symm (by omega) A hA _ _ f N
  obtain ⟨t,K⟩:∃t,t=ZR c ((P.length+(n - j))*11) z.cells.toList:=⟨_,rfl⟩
  rw[<-K] at o
  have δ:z.cells.toList.length=11:=by rw[Array.length_toList];exact z2
  have T:t.size=cur.size:=by rw[K,K8 (by rw[δ,i];omega),i]
  have β:=setRow_heap (w.drew.setRow a c) a c t _ _ O
  have hm:P.length+(n - j)=(P++R).length:=by rw[List.length_append];omega
  have U:t.toList.take ((P++R).length*11)=kz (P++R):=by
   rw[K, <-hm]
   unfold ZR
   rw[List.append_assoc,List.take_append_of_le_length (by have hq:c.toList.length=c.size:=Array.length_toList;rw[List.length_take];omega),List.take_take,Nat.min_self,E]
   unfold ZR
   rw[H,List.take_append_of_le_length (by rw[List.length_append];omega),List.take_of_length_le (by rw[List.length_append];omega),Ki]
  have d: #[g.cur id,.int .i64 (P.length:Int),.int .i64 ((P.length:Int)+1)]= #[.slice (some ⟨a,0,none⟩) n cap,.int .i64 (P.length:Int),.int .i64 (j:Int)]:=by
   rw[L,hj]
   simp
  have C:(Array.mk [g.cur id,Value.int .i64 (P.length:Int),Value.int .i64 ((P.length:Int)+1)])= #[.slice (some ⟨a,0,none⟩) n cap,.int .i64 (P.length:Int),.int .i64 (j:Int)]:=d
  show Calls Tryz.prog _ (Array.mk [g.cur id,Value.int .i64 (P.length:Int),Value.int .i64 ((P.length:Int)+1)]) w _
  rw[C]
  refine o.mono ?_
  rintro e w' ⟨rfl,rfl⟩
  have G:w.grownBy ((w.drew.setRow a c).setRow a t) (some a):=by
   refine ⟨rfl,rfl,rfl,by simp,λk hk l=>?_⟩
   have l:k≠a:=λq=>l (by rw[q])
   rw[setRow_other _ _ _ _ l,setRow_other _ _ _ _ l]
   rfl
  have F:=yC (w':=(w.drew.setRow a c).setRow a t) (xs':=(P++R).map evC) (v':= .slice (some ⟨a,0,none⟩) (P.length+(n - j)) cap) (cells:=kz (P++R)) (st':=st+1) hh hB m (λx hx=>by
   obtain ⟨e,_,rfl⟩:=List.mem_map.1 hx;rfl) (by rw[L];exact G) (by
   rw[List.length_map,hm]
   exact ⟨Q1 _,.inr ⟨a,cap,t,rfl,e2,β,by omega,e5,by rw[T,Y],U⟩⟩) (by rw[WI];exact ZT _) (.inr (Nat.lt_succ_self st)) (λb Q=> .inl (by rw[L];exact Q))
  have S:=(List.getElem?_eq_some_iff.1 m).1
  have χ:=(List.getElem?_eq_some_iff.1 W).1
  refine ⟨_,_,_,_,rfl,⟨rfl,rfl⟩,zC W rfl,by rw[qn rfl];exact F,⟨_,_,_,rfl⟩,⟨_,by rw[qn rfl,List.getElem?_set_self S],rfl⟩,λs p=>?_⟩
  have p:Ob.tok (fill φ (h.set id (qb (P++R) (st+1))))[id]? =some s:=p
  rw[qn rfl,List.getElem?_set_self S] at p
  have p:some (st+1)=some s:=p
  injection p with p
  subst p
  exact ⟨Nat.le_refl _,λ_=>by simp[ctx]⟩
end Go.Proofs.YtfmldcilgbbimaaGreat.Ax
namespace Go.Proofs.YtfmldcilgbbimaaGreat.Ax
open Go Go.Proofs
set_option maxRecDepth 100000
abbrev AH (h:List Ob) (s:Setup) (a:SA) (q:Fx):List Ob:=h++[.box 30 (zr s a),.box 75 (fxC q)]
structure ApI (h:List Ob) (q:Fx) (at_:Int) (rows:List Ev) (T:Env) (h':List Ob):Prop where
 pre:Pre h h'
 b1:h'[h.length+1]? =some (.box 75 (fxC q))
 own:OwnS h h' 73 11 (T 11) (rows.map evC)
 t5:T 5= .ptr (h.length+1) 0
 t8:T 8=bl (jC q)
 t9:T 9=bl (qV q)
 t10:T 10=i64 at_
theorem Xba (h:List Ob) (s:Setup) (a:SA) (k:SIn h s a) (x:AV) (l:List Ev) (q:Fx) (hx:SlOf h x 11 (l.map evC)) (hl:l.length<524288):
  ACalls Tryz.prog 34 [z6 s a,x,.ag (fxC q)] h λr h'=>∃L y,h'=h++L/\NoRes L/\r= .tup [y,i64 (qq s l q).2]/\New h 11 y ((qq s l q).1.map evC) L:=by
 have hex:∃r h',(∃L y,h'=h++L/\NoRes L/\r=AV.tup [y,i64 (qq s l q).2]/\New h 11 y ((qq s l q).1.map evC) L)/\ResK h h':=
  ⟨_,_,⟨[],.sl 11 _,rfl,qh,rfl,λ_ _=>⟨rfl,λ_=>rfl⟩⟩,zR⟩
 refine jm (N:=67) (rs:=[.tmp 6,.tmp 7]) (fn:=Tryz.f34) rfl rfl rfl rfl (Nat.le_of_ble_eq_true rfl) rfl (hex) λB=>?_
 refine qc (by decide) ?_
 simp only[go_sem,k.ones]
 have b0:(AH h s a q)[h.length]? =some (.box 30 (zr s a)):=by rw[zo rfl];rfl
 have b1:(AH h s a q)[h.length+1]? =some (.box 75 (fxC q)):=by rw[zm (k:=1) rfl];rfl
 have F:SlOf (AH h s a q) x 11 (l.map evC):=hx.app _
 have V:SIn (AH h s a q) s a:=k.app _
 refine j5 (qc (by decide) ?_)
 refine zn rfl [] 0 [(0,0,[]),(2,0,[]),(1,0,[2]),(3,0,[]),(4,0,[]),(5,0,[])] rfl (by decide) (by decide) ?_
 simp only[go_sem,b1]
 refine zc (XXa q _) ?_
 rintro _ t ⟨rfl,rfl⟩
 simp only[go_sem,b1]
 refine zc (Z4a q _) ?_
 rintro _ t ⟨rfl,rfl⟩
 simp only[go_sem,b1]
 refine j5 (qc (by decide) ?_)
 simp only[go_sem,b1]
 refine zc (WLa _ x l q.ev.id F (by omega)) ?_
 rintro _ t ⟨rfl,rfl⟩
 simp only[go_sem]
 have z:NoRes [Ob.box 30 (zr s a),.box 75 (fxC q)]:=zg rfl (zi rfl)
 have err:∀e:Int,qq s l q=([],e)->∃L y,AH h s a q=h++L/\NoRes L/\AV.tup [.v (.slice none 0 0),i64 e]= .tup [y,i64 (qq s l q).2]/\New h 11 y ((qq s l q).1.map evC) L:=λe g=>by
  rw[g]
  exact ⟨_,_,rfl,z,rfl,λ_ _=>⟨rfl,λq=>absurd rfl q⟩⟩
 refine j5 (vL (λT h'=>h'=AH h s a q/\(qq s l q).2=0/\T 1=x/\T 5= .ptr (h.length+1) 0/\T 8=bl (jC q)/\T 9=bl (qV q)/\T 10=i64 (Zx l q.ev.id)) (by decide) ?_ ?_)
 ·cases c:jC q<;>cases b:qV q
  ·simp only[go_sem,zJ,Bool.not_false,Bool.not_true]
   exact ⟨_,by simp only[go_sem],.inl (err 80 (by unfold qq;rw[if_pos (by simp[c,b])]))⟩
  ·cases f:decide (Zx l q.ev.id<0)
   ·simp only[go_sem,zJ,Bool.not_false,Bool.not_true,f]
    unfold qq
    rw[if_neg (by simp[c,b]),if_neg (by simp[b]),if_neg (by simp[f])]
   ·simp only[go_sem,zJ,Bool.not_false,Bool.not_true,f]
    refine ⟨_,by simp only[go_sem],.inl (err 131 ?_)⟩
    unfold qq
    rw[if_neg (by simp[c,b]),if_neg (by simp[b]),if_pos (by simp[b,f])]
  ·simp only[go_sem,zJ,Bool.not_false,Bool.not_true,b0,b1]
   refine zc (c14 _ s a V q.ev) ?_
   rintro _ t ⟨rfl,rfl⟩
   cases g:ko s q.ev
   ·simp only[go_sem,zJ,Bool.not_false,Bool.not_true]
    exact ⟨_,by simp only[go_sem],.inl (err 80 (by unfold qq;rw[if_pos (by simp[c,b,g])]))⟩
   ·cases f:decide (Zx l q.ev.id≥0)
    ·simp only[go_sem,zJ,Bool.not_false,Bool.not_true,f]
     unfold qq
     rw[if_neg (by simp[c,b,g]),if_neg (by simp[b,f]),if_neg (by simp[b])]
    ·simp only[go_sem,zJ,Bool.not_false,Bool.not_true,f]
     refine ⟨_,by simp only[go_sem],.inl (err 130 ?_)⟩
     unfold qq
     rw[if_neg (by simp[c,b,g]),if_pos (by simp[b,f])]
  ·simp only[go_sem,zJ,Bool.not_false,Bool.not_true,b0,b1]
   refine zc (c14 _ s a V q.ev) ?_
   rintro _ t ⟨rfl,rfl⟩
   cases g:ko s q.ev
   ·simp only[go_sem,zJ,Bool.not_false,Bool.not_true]
    exact ⟨_,by simp only[go_sem],.inl (err 80 (by unfold qq;rw[if_pos (by simp[c,b,g])]))⟩
   ·cases f:decide (Zx l q.ev.id<0)
    ·simp only[go_sem,zJ,Bool.not_false,Bool.not_true,f]
     unfold qq
     rw[if_neg (by simp[c,b,g]),if_neg (by simp[b]),if_neg (by simp[f])]
    ·simp only[go_sem,zJ,Bool.not_false,Bool.not_true,f]
     refine ⟨_,by simp only[go_sem],.inl (err 131 ?_)⟩
     unfold qq
     rw[if_neg (by simp[c,b,g]),if_neg (by simp[b]),if_pos (by simp[b,f])]
 rintro T h' ⟨rfl,E,t1,t5,t8,t9,t10⟩
 obtain ⟨e1,_,ε,o⟩:=QD E
 rw[e1]
 refine vL (ApI h q (Zx l q.ev.id) l) (by decide) ?_ ?_
 ·simp only[go_sem,t1]
  refine zc (c87 _ x l F (by omega)) ?_
  rintro _ t (⟨rfl,rfl,rfl⟩ | ⟨rfl,rfl⟩)
  ·simp only[go_sem]
   exact ⟨⟨_,rfl,z⟩,b1,.inl ⟨by simp only[go_sem],rfl⟩,by simp only[go_sem,t5],by simp only[go_sem,t8],by simp only[go_sem,t9],by simp only[go_sem,t10]⟩
  ·simp only[go_sem]
   exact ⟨⟨_,rfl,zg rfl (zg rfl (zi rfl))⟩,by rw[zm (k:=1) rfl];rfl,.inr ⟨h.length+2,1,by omega,by (simp only[go_sem]<;>simp),by rw[zm (k:=2) rfl];rfl⟩,by simp only[go_sem,t5],by simp only[go_sem,t8],by simp only[go_sem,t9],by simp only[go_sem,t10]⟩
 clear t1 t5 t8 t9 t10 E err
 rintro T h' k1
 refine vL (ApI h q (Zx l q.ev.id) (if qV q then KL l q.ev.id else l)) (by decide) ?_ ?_
 ·have t9:=k1.t9
  cases b:qV q
  ·simp only[go_sem,t9,b]
   exact ⟨k1.pre,k1.b1,by simp only[go_sem];exact k1.own,by simp only[go_sem,k1.t5],by simp only[go_sem,k1.t8],by simp only[go_sem,t9,b],by simp only[go_sem,k1.t10]⟩
  ·rcases o with ⟨U,_⟩ | ⟨_,P,y,R,H,_,_,W,J⟩
   ·rw[b] at U;cases U
   ·have j:=J
    have X:IntKind.wrap .i64 (Zx l q.ev.id+1)=(P.length:Int)+1:=by rw[j];exact zI (n:=(P.length:Int)+1) (by have:=congrArg List.length H;simp at this;unfold Fit;omega)
    rcases k1.own with ⟨p,G⟩ | ⟨id,st,D,p,i⟩
    ·rw[H] at G;simp at G
    ·rw[H] at i
     simp only[go_sem,t9,b,k1.t10,p,X]
     rw[j]
     refine zc (WVa _ id st P y R i) ?_
     rintro _ Z ⟨rfl,rfl⟩
     simp only[go_sem]
     have m:id≠h.length+1:=λe=>by rw[e,k1.b1] at i;cases i
     exact ⟨k1.pre.set D rfl,by rw[List.getElem?_set_ne m];exact k1.b1,.inr ⟨id,st+1,D,by simp only[go_sem],by rw[W];exact zh i⟩,by simp only[go_sem,k1.t5],by simp only[go_sem,k1.t8],by simp only[go_sem,k1.t9,b],by simp only[go_sem,k1.t10,j]⟩
 rintro T h' k2
 refine vL (ApI h q (Zx l q.ev.id) (kR l q)) (by decide) ?_ ?_
 ·have t8:=k2.t8
  cases c:jC q
  ·have d:kR l q=if qV q then KL l q.ev.id else l:=by unfold kR;rw[c];simp
   rw[d]
   simp only[go_sem,t8,c]
   exact ⟨k2.pre,k2.b1,by simp only[go_sem];exact k2.own,by simp only[go_sem,k2.t5],by simp only[go_sem,t8,c],by simp only[go_sem,k2.t9],by simp only[go_sem,k2.t10]⟩
  ·have d:kR l q=(if qV q then KL l q.ev.id else l)++[q.ev]:=by unfold kR;rw[c];simp
   obtain ⟨K,Q⟩:∃K,K=if qV q then KL l q.ev.id else l:=⟨_,rfl⟩
   have β:K.length<=l.length:=by
    rw[Q]
    split
    ·exact List.length_eraseP_le
    ·exact Nat.le_refl _
   rw[d, <-Q]
   rw[<-Q] at k2
   rcases k2.own with ⟨p,G⟩ | ⟨id,st,D,p,i⟩
   ·have S:K=[]:=List.map_eq_nil_iff.1 G
    subst S
    have δ:=k2.pre.len
    simp only[go_sem,t8,c,p,k2.t5,k2.b1]
    exact ⟨k2.pre.app (zg rfl (zi rfl)),zb k2.b1,.inr ⟨h'.length+1,0,by omega,by simp only[go_sem],by rw[zm (k:=1) rfl];rfl⟩,by simp only[go_sem,k2.t5],by simp only[go_sem,k2.t8],by simp only[go_sem,k2.t9],by simp only[go_sem,k2.t10]⟩
   ·have w:∀M,(h'++M)[id]? =some (.row 73 11 (K.map evC) st):=λM=>zb i
    have C:(K.length+1)*89<=140737488355328:=by omega
    have m:id≠h.length+1:=λe=>by have:=k2.b1;rw[e,this] at i;cases i
    simp only[go_sem,t8,c,p,k2.t5,k2.b1,w,List.length_map,C]
    exact ⟨(k2.pre.app (zi rfl)).set D rfl,by rw[List.getElem?_set_ne m];exact zb k2.b1,.inr ⟨id,st+1,D,by simp only[go_sem],by rw[List.map_append];exact zh (w _)⟩,by simp only[go_sem,k2.t5],by simp only[go_sem,k2.t8,c],by simp only[go_sem,k2.t9],by simp only[go_sem,k2.t10]⟩
 rintro T h' k3
 refine zL _ (by decide) ?_
 have Y:(kR l q).length<=l.length+1:=by
  unfold kR
  rw[List.length_append]
  have t:(if qV q then KL l q.ev.id else l).length<=l.length:=by
   split
   ·exact List.length_eraseP_le
   ·exact Nat.le_refl _
  have Z:(if jC q then [q.ev] else []).length<=1:=by split<;>simp
  omega
 simp only[go_sem]
 refine zc (c57 _ _ (kR l q) k3.own.rows (by omega)) ?_
 rintro _ h4 (⟨A,rfl,rfl⟩ | ⟨rfl,rfl⟩)
 ·simp only[go_sem]
  obtain ⟨L,I,O⟩:=k3.pre
  refine ⟨_,by simp only[go_sem];rfl,.inl ⟨L,_,I,O,rfl,?_⟩⟩
  rw[A]
  exact λ_ _=>⟨rfl,λq=>absurd rfl q⟩
 ·simp only[go_sem]
  have u:=k3.pre.app (M:=[qb (zD (kR l q)) 1]) (zi rfl)
  have own:OwnS h (h'++[qb (zD (kR l q)) 1]) 73 11 (.tl h'.length 1) ((zD (kR l q)).map evC):= .inr ⟨_,_,k3.pre.len,rfl,by rw[zo rfl];rfl⟩
  obtain ⟨L,I,O⟩:=u
  rw[I] at own⊢
  exact ⟨_,by simp only[go_sem],.inl ⟨L,_,rfl,O,rfl,own.new (Nat.le_refl _)⟩⟩
theorem K9a (h:List Ob) (s:Setup) (a:SA) (k:SIn h s a) (x:AV) (l:List Ev) (q:Fx) (c:SlOf h x 11 (l.map evC)) (b:l.length<524288):
  ACalls Tryz.prog 34 [z6 s a,x,.ag (fxC q)] h λr h'=>r= .tup [.sl 11 ((qq s l q).1.map evC),i64 (qq s l q).2]/\h'=h:=
 Jc (by decide) rfl (vz _) (Xba h s a k x l q c b)
set_option maxRecDepth 100000
def xo (k:Int × Int):Value:= .agg #[.int .i64 k.1,.int .i64 k.2]
theorem Xq {a b:Int × Int} (h:xo a=xo b):a=b:=by
 unfold xo at h
 injection h with h
 injection h with h
 injection h with h1 h2
 injection h2 with h2
 injection h1 with _ h1
 injection h2 with _ h2
 exact Prod.ext h1 h2
theorem WJ:∃a b:Field,Tryz.prog.underlying 89=some (.struct #[a,b])/\a.type=3/\b.type=3/\a.offset=0/\b.offset=1:=
 ⟨_,_,Tryz.underlying89,rfl,rfl,rfl,rfl⟩
theorem Xr (w:World) (xs:Array Value) (k:Nat) {n:Int} (h:xs[k]? =some (.int .i64 n)):(_root_.Go.part 3 xs k).run Tryz.prog w= .ok (.int .i64 n) w:=by
 have a:=run_underlying (w:=w) (show Tryz.prog.underlying 3=some _ from Tryz.underlying3)
 simp[_root_.Go.part,isAgg,a,h]
theorem Jg (w:World) (em:Bool) (k:Int × Int):(Instr.checkKey em 10000 89 (xo k)).run Tryz.prog w= .ok () w:=by
 obtain ⟨c,d,h,t1,t2,f,a⟩:=WJ
 have e:=run_underlying (w:=w) h
 have b:=run_underlying (w:=w) (show Tryz.prog.underlying 3=some _ from Tryz.underlying3)
 have p1:=Xr w #[.int .i64 k.1,.int .i64 k.2] 0 rfl
 have p2:=Xr w #[.int .i64 k.1,.int .i64 k.2] 1 rfl
 have g:∀n:Int,(Instr.checkKey em 9999 3 (.int .i64 n)).run Tryz.prog w= .ok () w:=λn=>by
  unfold Instr.checkKey
  simp[b]
 unfold xo
 unfold Instr.checkKey
 simp only[Sem.run_bind,e,Result.andThen]
 by_cases n1:c.name= "_" <;>by_cases n2:d.name= "_" <;>simp[t1,t2,f,a,p1,p2,g,n1,n2]
theorem kna (w:World) (a b:Int × Int):(Op.equal 89 (xo a) (xo b)).run Tryz.prog w= .ok (a.1==b.1 && a.2==b.2) w:=by
 have g:kU (ctx w ⟨λ_=>0,λ_=> .bool true⟩ []) (λi=>if i=0 then .ag [i64 a.1,i64 a.2] else if i=1 then .ag [i64 b.1,i64 b.2] else .bad) { tmps:= #[xo a,xo b],defers:=[] }:=λi=>by
  by_cases h0:i=0
  ·subst h0
   exact ⟨_,rfl,_,_,rfl,rfl,_,_,rfl,rfl,rfl⟩
  ·by_cases e:i=1
   ·subst e
    exact ⟨_,rfl,_,_,rfl,rfl,_,_,rfl,rfl,rfl⟩
   ·simp only[h0,e,if_false]
    trivial
 obtain ⟨U,V,c,d,f,_⟩:=XC (P:=Tryz.prog) g (t:=89) (X:= .tmp 0) (Y:= .tmp 1) (b:=a.1==b.1 && (a.2==b.2 && true)) rfl rfl (by rw[VCa]) (by kernel_rfl) (by kernel_rfl) rfl rfl
 have c:xo a= .agg U:=c
 have d:xo b= .agg V:=d
 rw[c,d]
 rw[Bool.and_true] at f
 exact f
structure KM (es:Array MapEntry) (c:Nat) (ks:List (Int × Int)):Prop where
 keys:es.toList.map (·.key)=ks.map xo
 vals:∀e∈es.toList,∃n,e.val= .int .i64 n
 born:(es.toList.map (·.born)).Nodup
 lt:∀e∈es.toList,e.born<c
def ZA (ks:List (Int × Int)) (k:Int × Int):List (Int × Int):=if k∈ks then ks else ks++[k]
theorem koa (c:Nat):KM #[] c []:=⟨rfl,λ_ h=>(by cases h),.nil,λ_ h=>by cases h⟩
theorem Xs:Tryz.prog.underlying 155=some (.map 89 3):=Tryz.underlying155
theorem vra (w:World) (k:Int × Int):∀(es:List MapEntry) (ks:List (Int × Int)) (i:Nat),es.map (·.key)=ks.map xo->
  (k∉ks/\(Instr.findAsking 89 (xo k) es i).run Tryz.prog w= .ok none w)∨∃j e,es[j]? =some e/\e.key=xo k/\k∈ks/\(Instr.findAsking 89 (xo k) es i).run Tryz.prog w= .ok (some (i+j,e.val)) w
 | [],ks,i,h=>by
   cases ks with
   | nil=>exact .inl ⟨by simp,by simp[Instr.findAsking]⟩
   | cons a ks=>simp at h
 | e::es,[],i,h=>by simp at h
 | e::es,a::ks,i,h=>by
   rw[List.map_cons,List.map_cons] at h
   injection h with h1 h2
   have b:=kna w k a
   by_cases f:k=a
   ·subst f
    refine .inr ⟨0,e,rfl,h1,.head _,?_⟩
    have:(k.1==k.1 && k.2==k.2)=true:=by simp
    rw[this] at b
    simp[Instr.findAsking,h1,b]
   ·have:(k.1==a.1 && k.2==a.2)=false:=by
     rw[Bool.eq_false_iff]
     intro q
     rw[Bool.and_eq_true,beq_iff_eq,beq_iff_eq] at q
     exact f (Prod.ext q.1 q.2)
    rw[this] at b
    rcases vra w k es ks (i+1) h2 with ⟨c,d⟩ | ⟨j,x,c,d,l,g⟩
    ·refine .inl ⟨by simp[f,c],?_⟩
     simp[Instr.findAsking,h1,b,d]
    ·refine .inr ⟨j+1,x,c,d,.tail _ l,?_⟩
     simp[Instr.findAsking,h1,b,g]
     omega
theorem YY (w:World) (k:Int × Int) {es:Array MapEntry} {c:Nat} {ks:List (Int × Int)} (h:KM es c ks):
  (k∉ks/\(Instr.findKey 89 (xo k) es.toList).run Tryz.prog w= .ok none w)∨∃j e,es.toList[j]? =some e/\e.key=xo k/\k∈ks/\(Instr.findKey 89 (xo k) es.toList).run Tryz.prog w= .ok (some (j,e.val)) w:=by
 obtain ⟨l,m,i,_⟩:=WJ
 have g:(match Tryz.prog.underlying 89 with | some (.array _ _) | some (.struct _)=>true | _=>false)=true:=by rw[i]
 rw[run_findKey_eq w g]
 rcases vra w k es.toList ks 0 h.keys with q | ⟨j,e,a,b,f,d⟩
 ·exact .inl q
 ·exact .inr ⟨j,e,a,b,f,by rw[d,Nat.zero_add]⟩
theorem Xt (w:World):(zeroValue 3).run Tryz.prog w= .ok (.int .i64 0) w:=Tryz.zeroValue3 w
theorem wVa (w:World) (l:Nat) (k:Int × Int) {es:Array MapEntry} {c:Nat} {ks:List (Int × Int)} (h:KM es c ks) (b:w.heap[l]? =some (.map es c)):
  ∃n,(Instr.lookup 155 (.map (some l)) (xo k) false).run Tryz.prog w= .ok (.int .i64 n) w:=by
 have d:=Jg w es.isEmpty k
 rcases YY w k h with ⟨_,a⟩ | ⟨j,e,f,_,_,a⟩
 ·exact ⟨0,by simp[Instr.lookup,run_underlying Xs,MapKept.run_getObj_map b,d,a,Xt,Result.andThen]⟩
 ·obtain ⟨n,g⟩:=h.vals e (List.mem_of_getElem? f)
  exact ⟨n,by simp[Instr.lookup,run_underlying Xs,MapKept.run_getObj_map b,d,a,g,Result.andThen]⟩
theorem wWa (k:Int × Int):Instr.sameBits 10000 (xo k) (xo k)=true:=by
 unfold xo Instr.sameBits
 simp[Instr.sameBits]
theorem WK (w:World) (l:Nat) (k:Int × Int) {es:Array MapEntry} {c:Nat} {ks:List (Int × Int)} (h:KM es c ks) (g:w.heap[l]? =some (.map es c)):
  ∃es' c' n,∃st:Nat,(Instr.mapEntry 155 (.map (some l)) (xo k)).run Tryz.prog w= .ok (.tuple #[.int .i64 n,.int .i64 st]) { w with heap:=w.heap.setIfInBounds l (.map es' c') }/\KM es' c' (ZA ks k)/\∃e∈es'.toList,e.born=st:=by
 have u:=Jg w false k
 rcases YY w k h with ⟨r,m⟩ | ⟨j,e,p,s,A,m⟩
 ·refine ⟨es.push ⟨xo k,.int .i64 0,c⟩,c+1,0,c,?_,?_,⟨xo k,.int .i64 0,c⟩,by simp,rfl⟩
  ·simp[Instr.mapEntry,run_underlying Xs,MapKept.run_getObj_map g,u,m,Xt,MapKept.run_setObj_map _ g,Result.andThen,goInt]
  ·unfold ZA
   rw[if_neg r]
   refine ⟨by simp[h.keys],λe d=>?_,?_,λe d=>?_⟩
   ·rw[Array.toList_push,List.mem_append,List.mem_singleton] at d
    rcases d with d | rfl
    ·exact h.vals e d
    ·exact ⟨0,rfl⟩
   ·rw[Array.toList_push,List.map_append,List.nodup_append]
    refine ⟨h.born,by simp,λa y b v=>?_⟩
    obtain ⟨x,z,rfl⟩:=List.mem_map.1 y
    simp at v
    subst v
    have:=h.lt x z
    omega
   ·rw[Array.toList_push,List.mem_append,List.mem_singleton] at d
    rcases d with d | rfl
    ·have:=h.lt e d;omega
    ·exact Nat.lt_succ_self c
 ·have t:es[j]? =some e:=by rw[<-Array.getElem?_toList];exact p
  obtain ⟨n,r⟩:=h.vals e (List.mem_of_getElem? p)
  have f:es.modify j (λe=>{ e with key:=xo k })=es:=by
   apply Array.ext_getElem?
   intro i
   rw[Array.getElem?_modify]
   split
   ·rename_i o
    subst o
    rw[t]
    simp[<-s]
   ·rfl
  have q:(Instr.keyThatStays (xo k) (xo k)).run Tryz.prog w= .ok (xo k) w:=by simp[Instr.keyThatStays,wWa]
  refine ⟨es,c,n,e.born,?_,?_,e,List.mem_of_getElem? p,rfl⟩
  ·simp[Instr.mapEntry,run_underlying Xs,MapKept.run_getObj_map g,u,m,t,s,q,f,r,MapKept.run_setObj_map _ g,Result.andThen,goInt]
  ·unfold ZA
   rw[if_pos A]
   exact h
theorem kpa (w:World) (l:Nat) (st:Nat) (n:Int) {es:Array MapEntry} {c:Nat} {ks:List (Int × Int)} (h:KM es c ks) (p:w.heap[l]? =some (.map es c)) (q:∃e∈es.toList,e.born=st):
  ∃es',(Instr.entryStore 155 (.map (some l)) (.int .i64 st) (.int .i64 n)).run Tryz.prog w= .ok () { w with heap:=w.heap.setIfInBounds l (.map es' c) }/\KM es' c ks/\∃e∈es'.toList,e.born=st:=by
 obtain ⟨e,o,rfl⟩:=q
 obtain ⟨j,s⟩:=List.getElem?_of_mem o
 have m:es.findIdx? (λx=>((x.born:Nat):Int)==((e.born:Nat):Int))=some j:=by
  rw[WideElems.findIdx_arr]
  exact WideElems.findIdx_born h.born s
 refine ⟨es.modify j λx=>{ x with val:= .int .i64 n },?_,?_⟩
 ·simp[Instr.entryStore,MapKept.run_getObj_map p,asInt,asIntOf,m,MapKept.run_setObj_map _ p,Result.andThen]
 ·have a:∀ {β:Type} (f:MapEntry->β),(∀x:MapEntry,f { x with val:= .int .i64 n }=f x)->(es.modify j λx=>{ x with val:= .int .i64 n }).toList.map f=es.toList.map f:=λf r=>by
   apply List.ext_getElem?
   intro i
   rw[List.getElem?_map,List.getElem?_map,Array.getElem?_toList,Array.getElem?_toList,Array.getElem?_modify]
   split
   ·cases es[i]? <;>simp[r]
   ·rfl
  have d:∀x∈(es.modify j λx=>{ x with val:= .int .i64 n }).toList,∃y∈es.toList,x=y∨x={ y with val:= .int .i64 n }:=λx k=>by
   obtain ⟨i,b⟩:=List.getElem?_of_mem k
   rw[Array.getElem?_toList,Array.getElem?_modify] at b
   split at b
   ·cases g:es[i]? with
    | none=>rw[g] at b;cases b
    | some y=>
      rw[g] at b
      injection b with b
      exact ⟨y,by simpa using Array.mem_of_getElem? g,.inr b.symm⟩
   ·exact ⟨x,by simpa using Array.mem_of_getElem? b,.inl rfl⟩
  have t:e.born∈(es.modify j λx=>{ x with val:= .int .i64 n }).toList.map (·.born):=by rw[a _ λ_=>rfl];exact List.mem_map.2 ⟨e,o,rfl⟩
  refine ⟨⟨by rw[a _ λ_=>rfl];exact h.keys,λx k=>?_,by rw[a _ λ_=>rfl];exact h.born,λx k=>?_⟩,List.mem_map.1 t⟩
  ·obtain ⟨y,g,rfl | rfl⟩:=d x k
   ·exact h.vals _ g
   ·exact ⟨n,rfl⟩
  ·obtain ⟨y,g,rfl | rfl⟩:=d x k
   ·exact h.lt _ g
   ·exact h.lt y g
end Go.Proofs.YtfmldcilgbbimaaGreat.Ax
namespace Go.Proofs.YtfmldcilgbbimaaGreat.Ax
open Go Go.RowKit
def ZK (P:Program) (N:Nat) (o:Oper) (K:Env->List Ob->Prop) (T:Env) (h:List Ob):Prop:=
 ∀ (φ:Nat->Ob),Upto φ h.length->∀(B:Bs) (w:World) (g:Gh) (a:Act),Rel N B w g (fill φ h) a T->∀(Q:Exit->Act->World->Prop) (next:Act->World->Prop),
   (∀b h' w' c,K b h'->Aft N B φ w g h b h' c w'->next c w')->o.wp P a w next Q
section
variable {P:Program} {N:Nat} {B:Bs} {ops:Array Oper} {T:Env} {h:List Ob} {K:Env->List Ob->Prop} {o:Oper}
theorem vY (a:xq N o=true) (k:WV P T h o K):ZK P N o K T h:=λ_ b _ _ _ _ r _ _ c=>Jn b a (zma k) r c
theorem yZ (i:xq N o=true) (k:∀(φ:Nat->Ob),Upto φ h.length->∀(B:Nat) (w:World) (g:Gh) (a:Act),HOk B w g (fill φ h)->B<=w.heap.size->kU (ctx w g (fill φ h)) T a->
  ∃d v w' g' x h',(execOp a.eval o).run P w= .ok d w'/\(d= .value v∨(d= .skip/\v=undef))/\K (zZ T o.dst x) h'/\ResK h h'/\Good B w g (fill φ h) w' g' (fill φ h')/\AR (ctx w' g' (fill φ h')) x v):ZK P N o K T h:=λφ p B w g a r Q next l=>by
 obtain ⟨d,v,w',g',x,h',m,n,j,e,c,f⟩:=k φ p B.b w g a r.ok r.hB r.t
 unfold Oper.wp
 rw[m]
 rcases n with rfl | ⟨rfl,rfl⟩
 ·exact l _ _ _ _ j ⟨g',e,kV r c f i,c⟩
 ·exact l _ _ _ _ j ⟨g',e,kV r c f i,c⟩
theorem wXa {φ:Nat->Ob} {J:(Nat->Bool)->Env->List Ob->Prop} (f:yw ops 0 ops.toList=true) (hg:∀(i:Nat) (o:Oper),ops[i]? =some o->o.guard=none)
  (step:∀(i:Nat) (o:Oper) (S:Nat->Bool) (T:Env) (h:List Ob),ops[i]? =some o->S i=false->(∀j∈xR o,S j=true)->J S T h->ZK P N o (J λm=>if m=i then true else S m) T h) {Q:Exit->Act->World->Prop}:
  ∀ (b:Nat) (listed:Array Bool),listed.size=ops.size->((List.range ops.size).filter λi=> !listed.getD i false).length<=b->∀ {T:Env} {h:List Ob},J (λi=>listed.getD i false) T h->Upto φ h.length->∀ {w:World} {g:Gh} {a:Act},Rel N B w g (fill φ h) a T->
    (∀S v h' w' H,(∀i,i<ops.size->S i=true)->J S v h'->Aft N B φ w g h v h' H w'->Q .normal H w')->wpAny P .any ops Q b listed a w:=by
 have same:∀(listed:Array Bool) (i:Nat),listed.size=ops.size->i<ops.size->listed.getD i true=listed.getD i false:=λlisted i c d=>by
  rw[Array.getD_eq_getD_getElem?,Array.getD_eq_getD_getElem?,Array.getElem?_eq_getElem (by omega)]
  rfl
 have all:∀listed:Array Bool,listed.size=ops.size->Region.ready .any ops listed=[]->∀i,i<ops.size->listed.getD i false=true:=by
  intro listed c L i d
  cases E:listed.getD i false
  ·exfalso
   obtain ⟨n,⟨x,K⟩,p⟩:=least (J:=λn=>n<ops.size/\listed.getD n false=false) ⟨i,d,E⟩
   have:n∈Region.ready .any ops listed:=VC x (by rw[same listed n c x];exact K) (Array.getElem?_eq_getElem x) λj hj=>by
    have D:=ym ops.toList 0 f n ops[n] (by simp[x]) j hj
    rw[Nat.zero_add] at D
    cases G:listed.getD j false
    ·have:=p j ⟨by omega,G⟩
     omega
    ·rfl
   rw[L] at this
   cases this
  ·rfl
 intro b
 induction b with
 | zero=>
   intro listed c u T h k C w g a r y
   have R:∀i,i<ops.size->listed.getD i false=true:=λi d=>by
    cases E:listed.getD i false
    ·have:i∈(List.range ops.size).filter λi=> !listed.getD i false:=List.mem_filter.2 ⟨List.mem_range.2 d,by simp[E]⟩
     have h0:((List.range ops.size).filter λi=> !listed.getD i false)=[]:=List.eq_nil_of_length_eq_zero (by omega)
     rw[h0] at this
     cases this
    ·rfl
   refine ⟨?_,y _ _ _ _ _ R k (.refl r)⟩
   rw[List.eq_nil_iff_forall_not_mem]
   intro i d
   obtain ⟨t,l,_⟩:=vp d
   rw[same listed i c t,R i t] at l
   cases l
 | succ b ih=>
   intro listed c u T h k C w g a r y
   refine ⟨λL=>y _ _ _ _ _ (all listed c L) k (.refl r),λi d=>?_⟩
   obtain ⟨t,l,o,z,h3⟩:=vp d
   have s:listed.getD i false=false:=by rw[<-same listed i c t];exact l
   have I:=step i o _ T h z s h3 k
   unfold wpOp
   simp only[z]
   rw[if_pos (by simp[Region.wanted,hg i o z])]
   refine .inl (I φ C B w g a r _ _ λv h' w' H k' U=>?_)
   have Z:=U
   obtain ⟨g',X,q2,O⟩:=U
   refine ih _ (by simp[c]) ?_ (T:=v) (h:=h') ?_ (C.mono (wE O)) q2 λS T2 l Y a2 W z2 z3=>y S T2 l Y a2 W z2 (z3.trans X O)
   ·have V:((List.range ops.size).filter λm=> !(listed.setIfInBounds i true).getD m false).length<((List.range ops.size).filter λm=> !listed.getD m false).length:=by
     have e:((List.range ops.size).filter λm=> !(listed.setIfInBounds i true).getD m false)=((List.range ops.size).filter λm=> !listed.getD m false).filter λm=> !(m==i):=by
      rw[List.filter_filter]
      refine List.filter_congr λm _=>?_
      rw[Z2 (by omega)]
      by_cases e:m=i
      ·simp[e]
      ·simp[e]
     rw[e]
     have q:i∈(List.range ops.size).filter λm=> !listed.getD m false:=List.mem_filter.2 ⟨List.mem_range.2 t,by rw[s];rfl⟩
     have F:=List.length_filter_le (λm=> !(m==i)) ((List.range ops.size).filter λm=> !listed.getD m false)
     rcases Nat.lt_or_ge ((List.filter (λm=> !(m==i)) ((List.range ops.size).filter λm=> !listed.getD m false)).length) ((List.range ops.size).filter λm=> !listed.getD m false).length with A | M
     ·exact A
     ·have:=List.filter_eq_self.1 ((List.filter_sublist).eq_of_length (Nat.le_antisymm F M)) i q
      simp at this
    omega
   ·have:(λm=>(listed.setIfInBounds i true).getD m false)=λm=>if m=i then true else listed.getD m false:=by
     funext m
     rw[Z2 (by omega)]
    rw[this]
    exact k'
theorem Xca {id:Nat} {Q:jv} (p:P.follows .mixedOrders=true) (c:yw ops 0 ops.toList=true) (s:∀(i:Nat) (o:Oper),ops[i]? =some o->o.guard=none) (J:(Nat->Bool)->Env->List Ob->Prop) (h0:J (λ_=>false) T h)
  (step:∀(i:Nat) (o:Oper) (S:Nat->Bool) (T:Env) (h:List Ob),ops[i]? =some o->S i=false->(∀j∈xR o,S j=true)->J S T h->ZK P N o (J λm=>if m=i then true else S m) T h)
  (fin:∀S T h,(∀i,i<ops.size->S i=true)->J S T h->Q .normal T h):AWp P N B (.region id ops true) Q T h:=λφ x w g a r=>by
 have b:=Good.drew (g:=g) r.ok r.hB
 have l:Rel N B w.drew g (fill φ h) a T:=⟨b.ok,b.size,λi=>AR.le b.le _ _ (r.t i),r.d,r.n⟩
 refine wp_region_any p ?_
 refine wXa c s step ops.size (Array.replicate ops.size false) (by simp) ?_ ?_ x l λS e h' w' y f u ⟨g',k,q,v⟩=>⟨e,h',fin S e h' f u,g',k,q,b.trans v⟩
 ·have:=List.length_filter_le (λi=> !(Array.replicate ops.size false).getD i false) (List.range ops.size)
  rw[List.length_range] at this
  exact this
 ·have:(λi=>(Array.replicate ops.size false).getD i false)=λ_=>false:=by
   funext i
   rw[Array.getD_eq_getD_getElem?,Array.getElem?_replicate]
   split<;>rfl
  rw[this]
  exact h0
theorem Qia {φ:Nat->Ob} {Q:Exit->Act->World->Prop} {o:Oper} {l:List Oper} {w:World} {g:Gh} {a:Act} (e:Upto φ h.length) (d:o.guard=none) (r:Rel N B w g (fill φ h) a T) (k:ZK P N o K T h)
  (next:∀c h' w' b,K c h'->Aft N B φ w g h c h' b w'->wpListIn Fence.wide 0 P ops Q l b w'):wpListIn Fence.wide 0 P ops Q (o::l) a w:=by
 unfold wpListIn
 rw[if_pos (by simp[Region.wanted,d])]
 exact yF 0 (k φ e B w g a r _ _ next)
def vsa (P:Program) (N:Nat) (K:Env->List Ob->Prop):List Oper->Env->List Ob->Prop
 | [],T,h=>K T h
 | o::l,T,h=>o.guard=none/\ZK P N o (vsa P N K l) T h
theorem wYa:vsa P N K [] T h=K T h:=id rfl
attribute [go_sem] wYa
theorem KN {φ:Nat->Ob} {Q:Exit->Act->World->Prop} {rest:List Oper}:∀(l:List Oper) {T:Env} {h:List Ob},vsa P N K l T h->Upto φ h.length->∀ {w:World} {g:Gh} {a:Act},Rel N B w g (fill φ h) a T->
  (∀c h' w' d,K c h'->Aft N B φ w g h c h' d w'->wpListIn Fence.wide 0 P ops Q rest d w')->wpListIn Fence.wide 0 P ops Q (l++rest) a w
 | [],T,h,k,b,w,g,a,r,next=>next _ _ _ _ k (.refl r)
 | o::l,T,h,⟨p,k⟩,b,w,g,a,r,next=>by
   refine Qia b p r k λc h' w' d k' ⟨g',i,n,e⟩=>?_
   exact KN l k' (b.mono (wE e)) n λm j s a2 f q=>next m j s a2 f (q.trans i e)
theorem WL {id:Nat} {Q:jv} (l rest:List Oper) (b:ops.toList=l++rest) (o:rest.all (xq N)=true) (k:vsa P N (wpR P ops (Q .normal) rest) l T h):AWp P N B (.region id ops false) Q T h:=λφ c w g a r=>by
 refine (wpIn_wide (n:=0)).1 (wpIn_region ?_)
 rw[List.range_eq_range', <-Array.length_toList,wpOpsIn_eq_wpListIn ops.toList 0 (by simp),b]
 refine KN l k c r λq h' w' s k' ⟨g',f,m,d⟩=>?_
 exact wx rest o (c.mono (wE d)) (qCa _ k') m λj i t a2 e p=>⟨j,i,e,p.trans f d⟩
end
end Go.Proofs.YtfmldcilgbbimaaGreat.Ax
