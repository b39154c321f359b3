import Derived.Test.YtigdlmpjijhpaaaGreatKA
import Derived.Test.YtigdlmpjijhpaaaGreatK17
set_option linter.all false
namespace Go.Proofs.YtigdlmpjijhpaaaGreat.Ax
open Go Go.Proofs
set_option maxRecDepth 100000
attribute [go_sem] Yba Yha W9a Yaa W7a qhb qjb Yda Yna Yma
theorem Q5{a b:Int}:(if b<a then b else a)=min a b:=by split<;>omega
theorem Q6{a b:Int}:(if b>a then b else a)=max a b:=by split<;>omega
def qI(n hi:Int):Int:=min (max n 0) hi
theorem c69(n hi:Int):xy Tryz.prog 172 [i64 n,i64 hi] (i64 (qI n hi)):=λh=>by
 refine zj Tryz.f172 [.tmp 4] 9 rfl rfl rfl rfl rfl rfl (by decide) (⟨_,_,⟨rfl,rfl⟩,.refl⟩) λB=>?_
 simp only[go_sem]
 refine zn ?_<;>(simp only[go_sem,qI,Q5,Q6]<;>try rfl)
def ofI(n a:Int):Int:=wr ((qI n 32054399).tdiv a)
theorem c51(n a:Int)(b:¬ a=0):xy Tryz.prog 140 [i64 n,i64 a] (i64 (ofI n a)):=λh=>by
 refine zj Tryz.f140 [.tmp 4] 9 rfl rfl rfl rfl rfl rfl (by decide) (⟨_,_,⟨rfl,rfl⟩,.refl⟩) λB=>?_
 simp only[go_sem]
 refine zh (c69 _ _ _) ?_
 rintro _ _ ⟨rfl,rfl⟩
 simp only[go_sem,b]
 refine zn ?_<;>(simp only[go_sem,ofI]<;>try rfl)
def xS(n:Int):Int:=ofI n 604800
theorem c17(n:Int):xy Tryz.prog 63 [i64 n] (i64 (xS n)):=λh=>by
 refine zj Tryz.f63 [.tmp 2] 5 rfl rfl rfl rfl rfl rfl (by decide) (⟨_,_,⟨rfl,rfl⟩,.refl⟩) λB=>?_
 simp only[go_sem]
 refine zh (c51 _ _ (by decide) _) ?_
 rintro _ _ ⟨rfl,rfl⟩
 simp only[go_sem]
 refine zn ?_<;>(simp only[go_sem,xS]<;>try rfl)
def kD(a b:Int):Int × Int:=if a.tmod b<0 then(wr (wr (a.tdiv b) - 1),wr (a.tmod b+b)) else(wr (a.tdiv b),a.tmod b)
abbrev XN(p:Int × Int):AV:= .tup [i64 p.1,i64 p.2]
theorem c97(a b:Int)(d:¬ b=0):xy Tryz.prog 209 [i64 a,i64 b] (XN (kD a b)):=λh=>by
 refine zj Tryz.f209 [.tmp 4,.tmp 5] 21 rfl rfl rfl rfl rfl rfl (by decide) (⟨_,_,⟨rfl,rfl⟩,.refl⟩) λB=>?_
 simp only[go_sem]
 refine zQ rfl [] 0 [(0,0,[]),(1,0,[]),(2,0,[]),(3,0,[]),(4,0,[]),(5,0,[]),(6,0,[]),(7,0,[])] rfl (by decide) (by decide) ?_
 simp only[go_sem,d]
 refine ways (λe=>?_) (λe=>?_)
 ·have c:a.tmod b<0:=by simpa using e
  simp only[go_sem]
  refine zn ?_<;>(simp only[go_sem,kD,c]<;>try rfl)
 ·have c:¬ a.tmod b<0:=by simpa using e
  simp only[go_sem]
  refine zn ?_<;>(simp only[go_sem,kD,c]<;>try rfl)
def K7(n d:Int):Int × Int:=if d<=0 then(0,20) else if(kD n d).2≥wr (d - (kD n d).2) then(wr ((kD n d).1+1),0) else((kD n d).1,0)
theorem c70(n d:Int):xy Tryz.prog 208 [i64 n,i64 d] (XN (K7 n d)):=λh=>by
 refine zj Tryz.f208 [.tmp 4,.tmp 5] 24 rfl rfl rfl rfl rfl rfl (by decide) (⟨_,_,⟨rfl,rfl⟩,.refl⟩) λB=>?_
 simp only[go_sem]
 refine ways (λe=>?_) (λe=>?_)
 ·have b:d<=0:=by simpa using e
  simp only[go_sem]
  refine zn ?_<;>(simp only[go_sem,K7,b]<;>try rfl)
 ·have b:¬ d<=0:=by simpa using e
  simp only[go_sem]
  refine zh (c97 n d (by omega) _) ?_
  rintro _ _ ⟨rfl,rfl⟩
  simp only[go_sem]
  refine ways (λa=>?_) (λa=>?_)
  ·have a:(kD n d).2≥wr (d - (kD n d).2):=by simpa using a
   simp only[go_sem]
   refine zn ?_<;>(simp only[go_sem,K7,b,a]<;>try rfl)
  ·have a:¬ (kD n d).2≥wr (d - (kD n d).2):=by simpa using a
   simp only[go_sem]
   refine zn ?_<;>(simp only[go_sem,K7,b,a]<;>try rfl)
def jv(t u:Int):Int:=if u<1 then qI t 32054400 else min (wr ((K7 (qI t 32054400) u).1*min u 64108801)) 32054400
theorem c36(t u:Int):xy Tryz.prog 217 [i64 t,i64 u] (i64 (jv t u)):=λh=>by
 refine zj Tryz.f217 [.tmp 4] 23 rfl rfl rfl rfl rfl rfl (by decide) (⟨_,_,⟨rfl,rfl⟩,.refl⟩) λB=>?_
 simp only[go_sem]
 refine zh (c69 _ _ _) ?_
 rintro _ _ ⟨rfl,rfl⟩
 simp only[go_sem]
 refine ways (λe=>?_) (λe=>?_)
 ·have a:u<1:=by simpa using e
  simp only[go_sem]
  refine zn ?_<;>(simp only[go_sem,jv,a]<;>try rfl)
 ·have a:¬ u<1:=by simpa using e
  simp only[go_sem]
  refine zh (c70 _ _ _) ?_
  rintro _ _ ⟨rfl,rfl⟩
  simp only[go_sem]
  refine zn ?_<;>(simp only[go_sem,jv,a,Q5]<;>try rfl)
theorem q8b(e:Ev):xy Tryz.prog 219 [evV e] (i64 (JZ e.kind)):=λh=>by
 refine zj Tryz.f219 [.tmp 2] 11 rfl rfl rfl rfl rfl rfl (by decide) (⟨_,_,⟨rfl,rfl⟩,.refl⟩) λB=>?_
 simp only[go_sem]
 refine ways (λa=>?_) (λa=>?_)
 ·simp only[go_sem]
  have a:e.kind=3:=by simpa using a
  refine zn ?_<;>(simp only[go_sem,JZ,a]<;>try rfl)
 ·simp only[go_sem]
  have a:¬ e.kind=3:=by simpa using a
  refine ways (λb=>?_) (λb=>?_)
  ·simp only[go_sem]
   have b:e.kind=4:=by simpa using b
   refine zn ?_<;>(simp only[go_sem,JZ,a,b]<;>try rfl)
  ·simp only[go_sem]
   have b:¬ e.kind=4:=by simpa using b
   refine ways (λc=>?_) (λc=>?_)
   ·simp only[go_sem]
    have c:e.kind=5:=by simpa using c
    refine zn ?_<;>(simp only[go_sem,JZ,a,b,c]<;>try rfl)
   ·simp only[go_sem]
    have c:¬ e.kind=5:=by simpa using c
    refine zn ?_<;>(simp only[go_sem,JZ,a,b,c]<;>try rfl)
theorem c90(h:List Ob)(i j:Nat)(s:Setup)(a:SA)(x y o:AV)(e:Ev)(hi:h[i]? =some (.box 138 (yl s a (.ptr j 0) x y)))(b:h[j]? =some (.box 236 (x9a e o))):
  ACalls Tryz.prog 151 [.ptr i 0] h λr h'=>r=i64 (wr (e.at_+s.cap))/\h'=h:=by
 refine zj Tryz.f151 [.tmp 2] 17 rfl rfl rfl rfl rfl rfl (by decide) (⟨_,_,⟨rfl,rfl⟩,.refl⟩) λB=>?_
 simp only[go_sem]
 refine zQ rfl [] 0 [(0,0,[]),(1,0,[]),(2,0,[]),(8,0,[]),(9,0,[]),(10,0,[]),(11,0,[]),(3,0,[]),(4,0,[]),(5,0,[]),(6,0,[]),(7,0,[]),(12,0,[]),(13,0,[]),(14,0,[])] rfl (by decide) (by decide) ?_
 simp only[go_sem,hi,b]
 refine zn ?_<;>(simp only[go_sem]<;>try rfl)
theorem c85(F:List (Nat × List AV))(h0 h:List Ob)(i:Nat)(s:Setup)(a:SA)(t:TellS)(e:Ev)(k:Int)(C:TellIn F h0 h i s a t)(D:t.flags.length<1099511627776):
  ACalls Tryz.prog 149 [.ptr i 0,evV e,i64 k] h λr h'=>r= .tup []/\TellIn F h0 h' i s a (xJ t e k):=by
 obtain⟨k1,k2,g,p,x,y,k3,k4,k5,k6⟩:=C
 have v:∀M,(h++M)[i]? =some (.box 138 (yl s a p x y)):=λM=>ze k3
 have w:∀M o,(h++M).set i o=h.set i o++M:=λM o=>jj k3
 have hex:=TellIn.ex (t:=t) ⟨k1,k2,g,p,x,y,k3,k4,k5,k6⟩ (xJ t e k)
 have u:=k1.len
 rcases k5 with⟨rfl,A⟩|⟨id,st,z,rfl,d⟩
 ·refine zj Tryz.f149 [] 19 rfl rfl rfl rfl rfl rfl (by decide) (hex) λB=>?_
  simp only[go_sem]
  refine zQ rfl [.res] 1 [(0,0,[]),(1,0,[]),(2,0,[]),(3,0,[]),(5,0,[]),(7,0,[]),(4,0,[]),(6,0,[]),(8,0,[]),(9,0,[]),(10,0,[]),(11,0,[]),(12,0,[]),(13,0,[])] rfl (by decide) (by decide) ?_
  simp only[go_sem,v,w]
  refine⟨.tup [],by simp only[go_sem],.inl ⟨rfl,(k1.set k2 rfl).app (zl rfl (zl rfl (zD rfl))),k2,(g.set_box k3 (by decide) _).app _,_,_,_,ze (zm k3),(k4.set_box k3 _).app _,.inr ⟨h.length+2,0,by omega,rfl,?_⟩,(k6.set_box k3 (by decide) _).app _⟩⟩
  rw[zG (by simp),xJ,zw,A]
  rfl
 ·have hid:∀M,(h++M)[id]? =some (.row 105 2 (t.flags.map xW) st):=λM=>ze d
  have m:∀M o,(h++M).set id o=h.set id o++M:=λM o=>jj d
  have b:id≠i:=λq=>by rw[q,k3] at d;cases d
  have f:∀M o,(h.set id o++M)[i]? =some (.box 138 (yl s a p x (.tl id st))):=λM o=>ze (by rw[zc b];exact k3)
  have l:∀M o n,(h.set id o++M).set i n=(h.set id o).set i n++M:=λM o n=>jj (by rw[zc b];exact k3)
  have j:((t.flags.map xW).length+1)*17<=140737488355328:=by rw[zb];omega
  refine zj Tryz.f149 [] 19 rfl rfl rfl rfl rfl rfl (by decide) (hex) λB=>?_
  simp only[go_sem]
  refine zQ rfl [.res] 1 [(0,0,[]),(1,0,[]),(2,0,[]),(3,0,[]),(5,0,[]),(7,0,[]),(4,0,[]),(6,0,[]),(8,0,[]),(9,0,[]),(10,0,[]),(11,0,[]),(12,0,[]),(13,0,[])] rfl (by decide) (by decide) ?_
  simp only[go_sem,v,w,hid,m,f,l,j]
  have c:∀o,(h.set id o)[i]? =some (.box 138 (yl s a p x (.tl id st))):=λo=>by rw[zc b];exact k3
  refine⟨.tup [],by simp only[go_sem],.inl ⟨rfl,((k1.set z rfl).set k2 rfl).app (zl rfl (zD rfl)),k2,((g.set_row d _).set_box (c _) (by decide) _).app _,_,_,_,ze (zm (c _)),((k4.set_row d (by decide) _).set_box (c _) _).app _,.inr ⟨id,st+1,z,rfl,ze ?_⟩,((k6.set_row d (by decide) _).set_box (c _) (by decide) _).app _⟩⟩
  rw[zc (Ne.symm b),zm d,xJ,zw]
  rfl
theorem q9b(F:List (Nat × List AV))(h0 h:List Ob)(i E nl l nt m:Nat)(s:Setup)(a:SA)(P:AV)(n:List (List AV))(t:TellS)(first last b to_:Int)(c next:Ev)(D:PartIn F h0 h i E nl l nt m s a P n first last b c t)(hl:t.segs.length<1099511627776):
  ACalls Tryz.prog 218 [i64 to_,evV next,.ptr E 0,.ptr nl 0,.ptr l 0,.ptr nt 0,.ptr m 0] h λr h'=>r= .tup []/\PartIn F h0 h' i E nl l nt m s a P n first last (toP first last to_) next (yb t b (toP first last to_) c):=by
 have hex:=D.any (toP first last to_) next (yb t b (toP first last to_) c)
 refine zj Tryz.f218 [] 37 rfl rfl rfl rfl rfl rfl (by decide) (hex) λB=>?_
 rw[xL,xL]
 refine w8 (λT h'=>∃H,PartIn F h0 h' i E nl l nt m s a P n first last b c (yb t b (toP first last to_) c)/\T 0=i64 (toP first last to_)/\T 4= .ptr l 0/\T 6= .ptr m 0/\T 8= .ptr H 0/\h'[H]? =some (.box 75 (evC next))) ?_ ?_
 ·have K:=D
  obtain⟨n1,n2,n3,n4,n5,b1,b2,b3,b4,b5,⟨k1,k2,kf,p,x,y,k3,k4,k5,k6⟩,b6⟩:=K
  have β:=k1.len
  have C:∀M,(h++M)[E]? =some (.box 3 [i64 first]):=λM=>ze b1
  have g:∀M,(h++M)[nl]? =some (.box 3 [i64 last]):=λM=>ze b2
  have z:∀M,(h++M)[l]? =some (.box 3 [i64 b]):=λM=>ze b3
  have A:∀M,(h++M)[nt]? =some (.box 135 [.ptr i 0]):=λM=>ze b4
  have w:∀M,(h++M)[m]? =some (.box 75 (evC c)):=λM=>ze b5
  simp only[go_sem,C,g,z,A,w,Q5,Q6]
  refine ways (λe=>?_) (λe=>?_)
  ·have L:b<toP first last to_:=of_decide_eq_true e
   rw[yb,if_pos L]
   have J:∀M,(h++M)[i]? =some (.box 138 (yl s a p x y)):=λM=>ze k3
   have I:∀M o,(h++M).set i o=h.set i o++M:=λM o=>jj k3
   rcases k4 with⟨rfl,hn⟩|⟨id,st,q1,rfl,f⟩
   ·simp only[go_sem]
    refine zQ rfl [.res] 1 [(6,0,[]),(9,0,[]),(11,0,[]),(0,0,[]),(1,0,[]),(2,0,[]),(3,0,[]),(4,0,[]),(5,0,[]),(7,0,[]),(10,0,[]),(12,0,[]),(8,0,[0,1,4,5,10,12]),(13,0,[]),(14,0,[]),(15,0,[0]),(16,0,[]),(17,0,[]),(18,0,[])] rfl (by decide) (by decide) ?_
    simp only[go_sem,C,g,z,A,w,J,I]
    refine zh (q8b c _) ?_
    rintro _ h1 ⟨rfl,g⟩
    subst g
    simp only[go_sem,C,g,z,A,w,J,I]
    refine⟨h.length,D.tell ⟨(k1.set k2 rfl).app (zl rfl (zl rfl (zD rfl))),k2,(kf.set_box k3 (by decide) _).app _,_,_,_,ze (zm k3),.inr ⟨h.length+2,0,by omega,rfl,?_⟩,(k5.set_box k3 _).app _,(k6.set_box k3 (by decide) _).app _⟩,rfl,rfl,?_⟩
    ·rw[zG (by simp),zw,hn]
     rfl
    ·rw[zK (by simp)]
     rfl
   ·have hid:∀M,(h++M)[id]? =some (.row 146 5 (t.segs.map ve) st):=λM=>ze f
    have α:∀M o,(h++M).set id o=h.set id o++M:=λM o=>jj f
    have v:id≠i:=λq=>by rw[q,k3] at f;cases f
    have d:∀o,(h.set id o)[i]? =some (.box 138 (yl s a p (.tl id st) y)):=λo=>by rw[zc v];exact k3
    have U:∀M o,(h.set id o++M)[i]? =some (.box 138 (yl s a p (.tl id st) y)):=λM o=>ze (d o)
    have X:∀M o R,(h.set id o++M).set i R=(h.set id o).set i R++M:=λM o R=>jj (d o)
    have Z:((t.segs.map ve).length+1)*41<=140737488355328:=by rw[zb];omega
    have G:∀ {j u:Nat} {cs:List AV},h[j]? =some (.box u cs)->∀o M,(h.set id o++M)[j]? =some (.box u cs):=λhj o M=>ze (by
     rw[zc (λq=>by rw[q,hj] at f;cases f)];exact hj)
    have S:=G b1
    have N:=G b2
    have Y:=G b3
    have W:=G b4
    have O:=G b5
    simp only[go_sem]
    refine zQ rfl [.res] 1 [(6,0,[]),(9,0,[]),(11,0,[]),(0,0,[]),(1,0,[]),(2,0,[]),(3,0,[]),(4,0,[]),(5,0,[]),(7,0,[]),(10,0,[]),(12,0,[]),(8,0,[0,1,4,5,10,12]),(13,0,[]),(14,0,[]),(15,0,[0]),(16,0,[]),(17,0,[]),(18,0,[])] rfl (by decide) (by decide) ?_
    simp only[go_sem,C,g,z,A,w,J,I]
    refine zh (q8b c _) ?_
    rintro _ h1 ⟨rfl,g⟩
    subst g
    simp only[go_sem,C,g,z,A,w,J,I,hid,α,U,X,Z,S,N,Y,W,O]
    refine⟨h.length,D.tell2 f (by decide) ⟨((k1.set q1 rfl).set k2 rfl).app (zl rfl (zD rfl)),k2,((kf.set_row f _).set_box (d _) (by decide) _).app _,_,_,_,ze (zm (d _)),.inr ⟨id,st+1,q1,rfl,ze ?_⟩,((k5.set_row f (by decide) _).set_box (d _) _).app _,((k6.set_row f (by decide) _).set_box (d _) (by decide) _).app _⟩,rfl,rfl,?_⟩
    ·rw[zc (Ne.symm v),zm f,zw]
     rfl
    ·rw[zK (by simp)]
     rfl
  ·have Q:¬ b<toP first last to_:=of_decide_eq_false e
   rw[yb,if_neg Q]
   simp only[go_sem]
   exact⟨h.length,D.app (zD rfl),rfl,rfl,by simp⟩
 ·rintro T h' ⟨H,k,t0,t4,t6,t8,V⟩
  have g3:=k.b3
  have g5:∀o,(h'.set l o)[m]? =some (.box 75 (evC c)):=λo=>by rw[zc (vG k.b3 k.b5 (by decide))];exact k.b5
  have g8:∀o,(h'.set l o)[H]? =some (.box 75 (evC next)):=λo=>by rw[zc (vG k.b3 V (by decide))];exact V
  simp only[go_sem]
  refine zQ rfl [] 0 [(0,0,[]),(1,0,[]),(2,0,[1]),(3,0,[])] rfl (by decide) (by decide) ?_
  simp only[go_sem,t0,t4,t6,t8,V,g3,g5,g8]
  exact⟨.tup [],by simp only[go_sem],.inl ⟨rfl,k.next _ _⟩⟩
theorem c86(F:List (Nat × List AV))(h0 h:List Ob)(i:Nat)(s:Setup)(a:SA)(t:TellS)(e:Ev)(os:List Ev)(at_:Int)(G:TellIn F h0 h i s a t)(ho:t.open_=some (e,os))(hl:t.segs.length+os.length+1<1099511627776):
  ACalls Tryz.prog 150 [.ptr i 0,i64 at_] h λr h'=>r= .tup []/\TellIn F h0 h' i s a ⟨none,(wL (jv e.at_ s.unit) (jv at_ s.unit) t e os).segs,t.flags⟩:=by
 have hex:=TellIn.ex G ⟨none,(wL (jv e.at_ s.unit) (jv at_ s.unit) t e os).segs,t.flags⟩
 have Q:=G
 obtain⟨k1,k2,X,p,x,y,k3,k4,k5,k6⟩:=Q
 rw[ho] at k6
 obtain⟨j,o,j1,rfl,j3,V⟩:=k6
 have R:=k1.len
 have N:∀M,(h++M)[i]? =some (.box 138 (yl s a (.ptr j 0) x y)):=λM=>ze k3
 have J:∀M,(h++M)[j]? =some (.box 236 (x9a e o)):=λM=>ze j3
 refine zj Tryz.f150 [] 66 rfl rfl rfl rfl rfl rfl (by decide) (hex) λB=>?_
 simp only[go_sem]
 refine zQ rfl [.res,.res] 2 [(14,0,[]),(0,0,[]),(1,0,[]),(2,0,[]),(3,0,[]),(4,0,[]),(5,0,[]),(6,0,[]),(7,0,[]),(8,0,[]),(9,0,[]),(10,0,[]),(11,0,[]),(12,0,[]),(15,0,[]),(16,0,[]),(17,0,[]),(18,0,[]),(19,0,[]),(13,0,[15,19]),(20,0,[]),(21,0,[]),(22,1,[]),(23,0,[]),(24,0,[])] rfl (by decide) (by decide) ?_
 simp only[go_sem,N,J]
 refine zh (c36 _ _ _) ?_
 rintro _ h1 ⟨rfl,O⟩
 subst O
 simp only[go_sem,N,J]
 refine zh (c36 _ _ _) ?_
 rintro _ h1 ⟨rfl,O⟩
 subst O
 have hr:∀M,qc (h++M) o=some (os.map evC):=λM=>(V.app M).rows.rows
 obtain⟨first,b⟩:∃f,f=jv e.at_ s.unit:=⟨_,rfl⟩
 obtain⟨last,g⟩:∃f,f=jv at_ s.unit:=⟨_,rfl⟩
 rw[<-b, <-g]
 simp only[go_sem,N,J,hr,zb]
 have I:PartIn F h0 (h++[.box 135 [.ptr i 0],.box 3 [i64 first],.box 3 [i64 last],.box 3 [i64 first],.box 75 (evC e)]) i (h.length+1) (h.length+2) (h.length+3) (h.length+0) (h.length+4) s a o (os.map evC) first last first e t:=
  ⟨by omega,by omega,by omega,by omega,λz D=>by
   have:=X z D
   have:=(zd.1 this).1
   omega,by rw[zG rfl];rfl,by rw[zG rfl];rfl,by rw[zG rfl];rfl,by rw[zG rfl];rfl,by rw[zG rfl];rfl,G.app (zl rfl (zl rfl (zl rfl (zl rfl (zD rfl))))),V.app _⟩
 refine zO (by decide) (λm T h'=>∃k:Nat,k<=os.length/\PartIn F h0 h' i (h.length+1) (h.length+2) (h.length+3) h.length (h.length+4) s a o (os.map evC) first last (vV first last t e (os.take k)).1 (vV first last t e (os.take k)).2.1 (vV first last t e (os.take k)).2.2/\T 2= .ptr h.length 0/\T 5= .ptr (h.length+2) 0/\T 8= .fn (.func 218) [] [.ptr (h.length+1) 0,.ptr (h.length+2) 0,.ptr (h.length+3) 0,.ptr h.length 0,.ptr (h.length+4) 0]/\T 47=o/\T 48=i64 os.length/\T 49=i64 k/\m=os.length - k) os.length
  ⟨0,by omega,I,by simp only[go_sem],by simp only[go_sem],by simp only[go_sem],by simp only[go_sem],by simp only[go_sem],by(simp only[go_sem]<;>rfl),rfl⟩ ?_
 rintro m T h' ⟨k,hk,n,t2,t5,t8,A,w,d,rfl⟩
 simp only[go_sem,w,d]
 refine ways (λH=>?_) (λH=>?_)
 ·have c:=dlt H
  have U:SlOf h' o 11 (os.map evC):=n.b6.rows
  have L:=U.at (i:=k) (by simpa using c)
  have P:=U.rows
  have C:(os.map evC)[k]? =some (evC os[k]):=xn (zi c)
  have E:(k:Int)<os.length:=by omega
  simp only[go_sem,A,d,L,P,C,E,zb,Int.toNat_natCast,zf,t8]
  have l:vV first last t e (os.take (k+1))=wK first last (vV first last t e (os.take k)) os[k]:=by
   rw[vV, <-zE c,qK]
   rfl
  have D:(vV first last t e (os.take k)).2.2.segs.length<=t.segs.length+(os.take k).length:=VL (os.take k) (z:=(first,e,t))
  rw[zH] at D
  refine zh (q9b F h0 _ i _ _ _ _ _ s a o (os.map evC) _ first last _ os[k].at_ _ os[k] (n.app (zD rfl)) (by omega)) ?_
  rintro _ h3 ⟨rfl,q⟩
  simp only[go_sem,d]
  refine⟨os.length - (k+1),by omega,k+1,by omega,?_,t2,t5,t8,A,w,qn (by omega) rfl,rfl⟩
  rw[l]
  exact q
 ·have β:=xr H
  have K:k=os.length:=by omega
  subst K
  rw[zV] at n
  have g2:=n.b2
  have D:(vV first last t e os).2.2.segs.length<=t.segs.length+os.length:=VL os (z:=(first,e,t))
  simp only[go_sem,t8,t5,g2]
  refine zh (q9b F h0 _ i _ _ _ _ _ s a o (os.map evC) _ first last _ last _ ⟨0,0,0,0,0,0,0,0,0,0,0⟩ n (by omega)) ?_
  rintro _ h3 ⟨rfl,q⟩
  have q4:=q.b4
  obtain⟨Z,S,Y,p',x',y',u,m4,W,m6⟩:=q.t
  simp only[go_sem,t2,q4,u]
  exact⟨.tup [],by simp only[go_sem],.inl ⟨rfl,Z.set S rfl,S,Y.set_box u (by decide) _,_,_,_,zm u,m4.set_box u _,(by
   have:=W.set_box u (o:= .box 138 (yl s a (.v (.pointer none)) x' y'))
   rw[Wu,kaa] at this
   exact this),rfl⟩⟩
def vH(s:Setup)(t:TellS)(e:Ev)(os:List Ev)(at_:Int):TellS:=⟨none,(wL (jv e.at_ s.unit) (jv at_ s.unit) t e os).segs,t.flags⟩
def lateP(s:Setup)(t:TellS)(at_:Int):TellS:=match t.open_ with
 | none=>t
 | some (e,os)=>if at_>wr (e.at_+s.cap) then vH s (xJ t e 1) e os (wr (e.at_+s.cap)) else t
def ko(s:Setup)(t:TellS)(e:Ev):TellS:=
 if e.kind=1 then(match (lateP s t e.at_).open_ with
  | none=>⟨some (e,[]),(lateP s t e.at_).segs,(lateP s t e.at_).flags⟩
  | some (f,os)=>⟨some (e,[]),(vH s (xJ (lateP s t e.at_) f 2) f os e.at_).segs,(vH s (xJ (lateP s t e.at_) f 2) f os e.at_).flags⟩)
 else match (lateP s t e.at_).open_ with
  | none=>xJ (lateP s t e.at_) e 3
  | some (f,os)=>if e.kind=2 then vH s (lateP s t e.at_) f os e.at_ else⟨some (f,os++[e]),(lateP s t e.at_).segs,(lateP s t e.at_).flags⟩
def szO:Option (Ev × List Ev)->Nat
 | none=>0
 | some (_,os)=>os.length+1
def szT(t:TellS):Nat:=t.segs.length+t.flags.length+szO t.open_
theorem qga{first last:Int}{t:TellS}{e:Ev}{os:List Ev}:(wL first last t e os).segs.length<=t.segs.length+os.length+1:=by
 have c:=qGa (t:=(vV first last t e os).2.2) (b:=(vV first last t e os).1) (to_:=toP first last last) (e:=(vV first last t e os).2.1)
 have a:(vV first last t e os).2.2.segs.length<=t.segs.length+os.length:=VL os (z:=(first,e,t))
 unfold wL
 omega
theorem YT{t:TellS}{e:Ev}{k:Int}:szT (xJ t e k)=szT t+1:=by simp[szT,xJ];omega
theorem VM{s:Setup}{t:TellS}{e:Ev}{os:List Ev}{at_:Int}(h:t.open_=some (e,os)):szT (vH s t e os at_)<=szT t:=by
 have:=qga (first:=jv e.at_ s.unit) (last:=jv at_ s.unit) (t:=t) (e:=e) (os:=os)
 simp only[szT,vH,h,szO]
 omega
theorem K8{s:Setup}{t:TellS}{at_:Int}:szT (lateP s t at_)<=szT t+1:=by
 unfold lateP
 split
 ·omega
 ·rename_i e os a
  split
  ·have:=VM (s:=s) (t:=xJ t e 1) (e:=e) (os:=os) (at_:=wr (e.at_+s.cap)) a
   rw[YT] at this
   exact this
  ·omega
theorem Xia{s:Setup}{t:TellS}{e:Ev}:szT (ko s t e)<=szT t+3:=by
 have b:=K8 (s:=s) (t:=t) (at_:=e.at_)
 unfold ko
 split
 ·split
  ·rename_i a
   simp only[szT,szO,a,List.length_nil] at b⊢
   omega
  ·rename_i f os a
   have:=VM (s:=s) (t:=xJ (lateP s t e.at_) f 2) (e:=f) (os:=os) (at_:=e.at_) a
   rw[YT] at this
   simp only[szT,szO,vH,List.length_nil] at this b⊢
   omega
 ·split
  ·rw[YT];omega
  ·rename_i f os a
   split
   ·have:=VM (s:=s) (t:=lateP s t e.at_) (e:=f) (os:=os) (at_:=e.at_) a
    omega
   ·simp only[szT,szO,a,zg,List.length_cons,List.length_nil] at b⊢
    omega
