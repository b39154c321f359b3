/-
  Joined.
-/
import Derived.Test.YtigdlmpjijhpaaaGreatK17
set_option linter.unusedSimpArgs false
set_option linter.unusedVariables false
namespace Go.Proofs.YtigdlmpjijhpaaaGreat.Ax
open Go Go.Proofs
set_option maxRecDepth 100000
attribute [go_sem] yva yBa yta yua yra Z4a Z5a yxa yHa yGa
theorem w9 {a b:Int}:(if b<a then b else a)=min a b:=by split<;>omega
theorem yb {a b:Int}:(if b>a then b else a)=max a b:=by split<;>omega
def zO (n a:Int):Int:=min (max n 0) a
theorem c69 (n a:Int):jf Tryz.prog 172 [i64 n,i64 a] (i64 (zO n a)):=λh=>by
 refine zf Tryz.f172 [.tmp 4] 9 rfl rfl rfl rfl rfl rfl (by decide) (⟨_,_,⟨rfl,rfl⟩,.refl⟩) λB=>?_
 simp only[go_sem]
 (first | refine zc ?_ | refine ze ?_ (by rfl))<;>(simp only[go_sem,zO,w9,yb]<;>try rfl)
def ofI (n a:Int):Int:=wr ((zO n 32054399).tdiv a)
theorem c51 (n a:Int) (b:¬ a=0):jf Tryz.prog 140 [i64 n,i64 a] (i64 (ofI n a)):=λh=>by
 refine zf Tryz.f140 [.tmp 4] 9 rfl rfl rfl rfl rfl rfl (by decide) (⟨_,_,⟨rfl,rfl⟩,.refl⟩) λB=>?_
 simp only[go_sem]
 refine zd (c69 _ _ _) ?_
 rintro _ _ ⟨rfl,rfl⟩
 simp only[go_sem,b]
 (first | refine zc ?_ | refine ze ?_ (by rfl))<;>(simp only[go_sem,ofI]<;>try rfl)
def kQ (n:Int):Int:=ofI n 604800
theorem c17 (n:Int):jf Tryz.prog 63 [i64 n] (i64 (kQ n)):=λh=>by
 refine zf Tryz.f63 [.tmp 2] 5 rfl rfl rfl rfl rfl rfl (by decide) (⟨_,_,⟨rfl,rfl⟩,.refl⟩) λB=>?_
 simp only[go_sem]
 refine zd (c51 _ _ (by decide) _) ?_
 rintro _ _ ⟨rfl,rfl⟩
 simp only[go_sem]
 (first | refine zc ?_ | refine ze ?_ (by rfl))<;>(simp only[go_sem,kQ]<;>try rfl)
def jX (a b:Int):Int × Int:=if a.tmod b<0 then (wr (wr (a.tdiv b) - 1),wr (a.tmod b+b)) else (wr (a.tdiv b),a.tmod b)
abbrev QU (p:Int × Int):AV:= .tup [i64 p.1,i64 p.2]
theorem c97 (a b:Int) (d:¬ b=0):jf Tryz.prog 209 [i64 a,i64 b] (QU (jX a b)):=λh=>by
 refine zf Tryz.f209 [.tmp 4,.tmp 5] 21 rfl rfl rfl rfl rfl rfl (by decide) (⟨_,_,⟨rfl,rfl⟩,.refl⟩) λB=>?_
 simp only[go_sem]
 refine zp rfl [] 0 [(0,0,[]),(1,0,[]),(2,0,[]),(3,0,[]),(4,0,[]),(5,0,[]),(6,0,[]),(7,0,[])] rfl (by decide) (by decide) ?_
 simp only[go_sem,d]
 refine ways (λe=>?_) (λe=>?_)
 ·have c:a.tmod b<0:=by simpa using e
  simp only[go_sem]
  (first | refine zc ?_ | refine ze ?_ (by rfl))<;>(simp only[go_sem,jX,c]<;>try rfl)
 ·have c:¬ a.tmod b<0:=by simpa using e
  simp only[go_sem]
  (first | refine zc ?_ | refine ze ?_ (by rfl))<;>(simp only[go_sem,jX,c]<;>try rfl)
def Jq (n d:Int):Int × Int:=if d<=0 then (0,20) else if (jX n d).2≥wr (d - (jX n d).2) then (wr ((jX n d).1+1),0) else ((jX n d).1,0)
theorem c70 (n d:Int):jf Tryz.prog 208 [i64 n,i64 d] (QU (Jq n d)):=λh=>by
 refine zf Tryz.f208 [.tmp 4,.tmp 5] 24 rfl rfl rfl rfl rfl rfl (by decide) (⟨_,_,⟨rfl,rfl⟩,.refl⟩) λB=>?_
 simp only[go_sem]
 refine ways (λe=>?_) (λe=>?_)
 ·have b:d<=0:=by simpa using e
  simp only[go_sem]
  (first | refine zc ?_ | refine ze ?_ (by rfl))<;>(simp only[go_sem,Jq,b]<;>try rfl)
 ·have b:¬ d<=0:=by simpa using e
  simp only[go_sem]
  refine zd (c97 n d (by omega) _) ?_
  rintro _ _ ⟨rfl,rfl⟩
  simp only[go_sem]
  refine ways (λa=>?_) (λa=>?_)
  ·have a:(jX n d).2≥wr (d - (jX n d).2):=by simpa using a
   simp only[go_sem]
   (first | refine zc ?_ | refine ze ?_ (by rfl))<;>(simp only[go_sem,Jq,b,a]<;>try rfl)
  ·have a:¬ (jX n d).2≥wr (d - (jX n d).2):=by simpa using a
   simp only[go_sem]
   (first | refine zc ?_ | refine ze ?_ (by rfl))<;>(simp only[go_sem,Jq,b,a]<;>try rfl)
def qA (t u:Int):Int:=if u<1 then zO t 32054400 else min (wr ((Jq (zO t 32054400) u).1*min u 64108801)) 32054400
theorem c36 (t u:Int):jf Tryz.prog 217 [i64 t,i64 u] (i64 (qA t u)):=λh=>by
 refine zf Tryz.f217 [.tmp 4] 23 rfl rfl rfl rfl rfl rfl (by decide) (⟨_,_,⟨rfl,rfl⟩,.refl⟩) λB=>?_
 simp only[go_sem]
 refine zd (c69 _ _ _) ?_
 rintro _ _ ⟨rfl,rfl⟩
 simp only[go_sem]
 refine ways (λe=>?_) (λe=>?_)
 ·have a:u<1:=by simpa using e
  simp only[go_sem]
  (first | refine zc ?_ | refine ze ?_ (by rfl))<;>(simp only[go_sem,qA,a]<;>try rfl)
 ·have a:¬ u<1:=by simpa using e
  simp only[go_sem]
  refine zd (c70 _ _ _) ?_
  rintro _ _ ⟨rfl,rfl⟩
  simp only[go_sem]
  (first | refine zc ?_ | refine ze ?_ (by rfl))<;>(simp only[go_sem,qA,a,w9]<;>try rfl)
theorem QTa (e:Ev):jf Tryz.prog 219 [evV e] (i64 (Zy e.kind)):=λh=>by
 refine zf Tryz.f219 [.tmp 2] 11 rfl rfl rfl rfl rfl rfl (by decide) (⟨_,_,⟨rfl,rfl⟩,.refl⟩) λB=>?_
 simp only[go_sem]
 refine ways (λa=>?_) (λa=>?_)
 ·simp only[go_sem]
  have a:e.kind=3:=by simpa using a
  (first | refine zc ?_ | refine ze ?_ (by rfl))<;>(simp only[go_sem,Zy,a]<;>try rfl)
 ·simp only[go_sem]
  have a:¬ e.kind=3:=by simpa using a
  refine ways (λb=>?_) (λb=>?_)
  ·simp only[go_sem]
   have b:e.kind=4:=by simpa using b
   (first | refine zc ?_ | refine ze ?_ (by rfl))<;>(simp only[go_sem,Zy,a,b]<;>try rfl)
  ·simp only[go_sem]
   have b:¬ e.kind=4:=by simpa using b
   refine ways (λc=>?_) (λc=>?_)
   ·simp only[go_sem]
    have c:e.kind=5:=by simpa using c
    (first | refine zc ?_ | refine ze ?_ (by rfl))<;>(simp only[go_sem,Zy,a,b,c]<;>try rfl)
   ·simp only[go_sem]
    have c:¬ e.kind=5:=by simpa using c
    (first | refine zc ?_ | refine ze ?_ (by rfl))<;>(simp only[go_sem,Zy,a,b,c]<;>try rfl)
theorem c90 (h:List Ob) (i j:Nat) (s:Setup) (a:SA) (x y o:AV) (e:Ev) (b:h[i]? =some (.box 138 (xZ s a (.ptr j 0) x y))) (c:h[j]? =some (.box 236 (W0 e o))):
  ACalls Tryz.prog 151 [.ptr i 0] h λr h'=>r=i64 (wr (e.at_+s.cap))/\h'=h:=by
 refine zf Tryz.f151 [.tmp 2] 17 rfl rfl rfl rfl rfl rfl (by decide) (⟨_,_,⟨rfl,rfl⟩,.refl⟩) λB=>?_
 simp only[go_sem]
 refine zp rfl [] 0 [(0,0,[]),(1,0,[]),(2,0,[]),(8,0,[]),(9,0,[]),(10,0,[]),(11,0,[]),(3,0,[]),(4,0,[]),(5,0,[]),(6,0,[]),(7,0,[]),(12,0,[]),(13,0,[]),(14,0,[])] rfl (by decide) (by decide) ?_
 simp only[go_sem,b,c]
 (first | refine zc ?_ | refine ze ?_ (by rfl))<;>(simp only[go_sem]<;>try rfl)
theorem c85 (F:List (Nat × List AV)) (h0 h:List Ob) (i:Nat) (s:Setup) (a:SA) (t:TellS) (e:Ev) (k:Int) (A:TellIn F h0 h i s a t) (D:t.flags.length<1099511627776):
  ACalls Tryz.prog 149 [.ptr i 0,evV e,i64 k] h λr h'=>r= .tup []/\TellIn F h0 h' i s a (xL t e k):=by
 obtain ⟨k1,k2,j,p,x,y,k3,k4,k5,k6⟩:=A
 have u:∀M,(h++M)[i]? =some (.box 138 (xZ s a p x y)):=λM=>zb k3
 have v:∀M o,(h++M).set i o=h.set i o++M:=λM o=>z6 k3
 have hex:=TellIn.ex (t:=t) ⟨k1,k2,j,p,x,y,k3,k4,k5,k6⟩ (xL t e k)
 have w:=k1.len
 rcases k5 with ⟨rfl,C⟩ | ⟨id,st,z,rfl,d⟩
 ·refine zf Tryz.f149 [] 19 rfl rfl rfl rfl rfl rfl (by decide) (hex) λB=>?_
  simp only[go_sem]
  refine zp rfl [.res] 1 [(0,0,[]),(1,0,[]),(2,0,[]),(3,0,[]),(5,0,[]),(7,0,[]),(4,0,[]),(6,0,[]),(8,0,[]),(9,0,[]),(10,0,[]),(11,0,[]),(12,0,[]),(13,0,[])] rfl (by decide) (by decide) ?_
  simp only[go_sem,u,v]
  refine ⟨.tup [],by simp only[go_sem],.inl ⟨rfl,(k1.set k2 rfl).app (zg rfl (zg rfl (zj rfl))),k2,(j.set_box k3 (by decide) _).app _,_,_,_,zb (zh k3),(k4.set_box k3 _).app _,.inr ⟨h.length+2,0,by omega,rfl,?_⟩,(k6.set_box k3 (by decide) _).app _⟩⟩
  rw[zl (by simp),xL,List.map_append,C]
  rfl
 ·have hid:∀M,(h++M)[id]? =some (.row 105 2 (t.flags.map xP) st):=λM=>zb d
  have g:∀M o,(h++M).set id o=h.set id o++M:=λM o=>z6 d
  have c:id≠i:=λq=>by rw[q,k3] at d;cases d
  have l:∀M o,(h.set id o++M)[i]? =some (.box 138 (xZ s a p x (.tl id st))):=λM o=>zb (by rw[List.getElem?_set_ne c];exact k3)
  have n:∀M o f,(h.set id o++M).set i f=(h.set id o).set i f++M:=λM o f=>z6 (by rw[List.getElem?_set_ne c];exact k3)
  have m:((t.flags.map xP).length+1)*17<=140737488355328:=by rw[List.length_map];omega
  refine zf Tryz.f149 [] 19 rfl rfl rfl rfl rfl rfl (by decide) (hex) λB=>?_
  simp only[go_sem]
  refine zp rfl [.res] 1 [(0,0,[]),(1,0,[]),(2,0,[]),(3,0,[]),(5,0,[]),(7,0,[]),(4,0,[]),(6,0,[]),(8,0,[]),(9,0,[]),(10,0,[]),(11,0,[]),(12,0,[]),(13,0,[])] rfl (by decide) (by decide) ?_
  simp only[go_sem,u,v,hid,g,l,n,m]
  have b:∀o,(h.set id o)[i]? =some (.box 138 (xZ s a p x (.tl id st))):=λo=>by rw[List.getElem?_set_ne c];exact k3
  refine ⟨.tup [],by simp only[go_sem],.inl ⟨rfl,((k1.set z rfl).set k2 rfl).app (zg rfl (zj rfl)),k2,((j.set_row d _).set_box (b _) (by decide) _).app _,_,_,_,zb (zh (b _)),((k4.set_row d (by decide) _).set_box (b _) _).app _,.inr ⟨id,st+1,z,rfl,zb ?_⟩,((k6.set_row d (by decide) _).set_box (b _) (by decide) _).app _⟩⟩
  rw[List.getElem?_set_ne (Ne.symm c),zh d,xL,List.map_append]
  rfl
theorem QUa (F:List (Nat × List AV)) (h0 h:List Ob) (i w nl l nt n:Nat) (s:Setup) (a:SA) (R:AV) (m:List (List AV)) (t:TellS) (first last b to_:Int) (c next:Ev) (C:PartIn F h0 h i w nl l nt n s a R m first last b c t) (hl:t.segs.length<1099511627776):
  ACalls Tryz.prog 218 [i64 to_,evV next,.ptr w 0,.ptr nl 0,.ptr l 0,.ptr nt 0,.ptr n 0] h λr h'=>r= .tup []/\PartIn F h0 h' i w nl l nt n s a R m first last (toP first last to_) next (vh t b (toP first last to_) c):=by
 have hex:=C.any (toP first last to_) next (vh t b (toP first last to_) c)
 refine zf Tryz.f218 [] 37 rfl rfl rfl rfl rfl rfl (by decide) (hex) λB=>?_
 rw[qZ,qZ]
 refine w8 (λT h'=>∃J,PartIn F h0 h' i w nl l nt n s a R m first last b c (vh t b (toP first last to_) c)/\T 0=i64 (toP first last to_)/\T 4= .ptr l 0/\T 6= .ptr n 0/\T 8= .ptr J 0/\h'[J]? =some (.box 75 (evC next))) ?_ ?_
 ·have α:=C
  obtain ⟨n1,n2,n3,n4,n5,b1,b2,b3,b4,b5,⟨k1,k2,kf,p,x,y,k3,k4,k5,k6⟩,b6⟩:=α
  have γ:=k1.len
  have v:∀M,(h++M)[w]? =some (.box 3 [i64 first]):=λM=>zb b1
  have g:∀M,(h++M)[nl]? =some (.box 3 [i64 last]):=λM=>zb b2
  have G:∀M,(h++M)[l]? =some (.box 3 [i64 b]):=λM=>zb b3
  have E:∀M,(h++M)[nt]? =some (.box 135 [.ptr i 0]):=λM=>zb b4
  have A:∀M,(h++M)[n]? =some (.box 75 (evC c)):=λM=>zb b5
  simp only[go_sem,v,g,G,E,A,w9,yb]
  refine ways (λe=>?_) (λe=>?_)
  ·have U:b<toP first last to_:=of_decide_eq_true e
   rw[vh,if_pos U]
   have H:∀M,(h++M)[i]? =some (.box 138 (xZ s a p x y)):=λM=>zb k3
   have I:∀M o,(h++M).set i o=h.set i o++M:=λM o=>z6 k3
   rcases k4 with ⟨rfl,hn⟩ | ⟨id,st,q1,rfl,f⟩
   ·simp only[go_sem]
    refine zp rfl [.res] 1 [(6,0,[]),(9,0,[]),(11,0,[]),(0,0,[]),(1,0,[]),(2,0,[]),(3,0,[]),(4,0,[]),(5,0,[]),(7,0,[]),(10,0,[]),(12,0,[]),(8,0,[0,1,4,5,10,12]),(13,0,[]),(14,0,[]),(15,0,[0]),(16,0,[]),(17,0,[]),(18,0,[])] rfl (by decide) (by decide) ?_
    simp only[go_sem,v,g,G,E,A,H,I]
    refine zd (QTa c _) ?_
    rintro _ h1 ⟨rfl,g⟩
    subst g
    simp only[go_sem,v,g,G,E,A,H,I]
    refine ⟨h.length,C.tell ⟨(k1.set k2 rfl).app (zg rfl (zg rfl (zj rfl))),k2,(kf.set_box k3 (by decide) _).app _,_,_,_,zb (zh k3),.inr ⟨h.length+2,0,by omega,rfl,?_⟩,(k5.set_box k3 _).app _,(k6.set_box k3 (by decide) _).app _⟩,rfl,rfl,?_⟩
    ·rw[zl (by simp),List.map_append,hn]
     rfl
    ·rw[zm (by simp)]
     rfl
   ·have hid:∀M,(h++M)[id]? =some (.row 146 5 (t.segs.map xf) st):=λM=>zb f
    have W:∀M o,(h++M).set id o=h.set id o++M:=λM o=>z6 f
    have z:id≠i:=λq=>by rw[q,k3] at f;cases f
    have d:∀o,(h.set id o)[i]? =some (.box 138 (xZ s a p (.tl id st) y)):=λo=>by rw[List.getElem?_set_ne z];exact k3
    have P:∀M o,(h.set id o++M)[i]? =some (.box 138 (xZ s a p (.tl id st) y)):=λM o=>zb (d o)
    have V:∀M o Q,(h.set id o++M).set i Q=(h.set id o).set i Q++M:=λM o Q=>z6 (d o)
    have Z:((t.segs.map xf).length+1)*41<=140737488355328:=by rw[List.length_map];omega
    have D:∀ {j u:Nat} {cs:List AV},h[j]? =some (.box u cs)->∀o M,(h.set id o++M)[j]? =some (.box u cs):=λhj o M=>zb (by
     rw[List.getElem?_set_ne (λq=>by rw[q,hj] at f;cases f)];exact hj)
    have N:=D b1
    have X:=D b2
    have Y:=D b3
    have K:=D b4
    have L:=D b5
    simp only[go_sem]
    refine zp rfl [.res] 1 [(6,0,[]),(9,0,[]),(11,0,[]),(0,0,[]),(1,0,[]),(2,0,[]),(3,0,[]),(4,0,[]),(5,0,[]),(7,0,[]),(10,0,[]),(12,0,[]),(8,0,[0,1,4,5,10,12]),(13,0,[]),(14,0,[]),(15,0,[0]),(16,0,[]),(17,0,[]),(18,0,[])] rfl (by decide) (by decide) ?_
    simp only[go_sem,v,g,G,E,A,H,I]
    refine zd (QTa c _) ?_
    rintro _ h1 ⟨rfl,g⟩
    subst g
    simp only[go_sem,v,g,G,E,A,H,I,hid,W,P,V,Z,N,X,Y,K,L]
    refine ⟨h.length,C.tell2 f (by decide) ⟨((k1.set q1 rfl).set k2 rfl).app (zg rfl (zj rfl)),k2,((kf.set_row f _).set_box (d _) (by decide) _).app _,_,_,_,zb (zh (d _)),.inr ⟨id,st+1,q1,rfl,zb ?_⟩,((k5.set_row f (by decide) _).set_box (d _) _).app _,((k6.set_row f (by decide) _).set_box (d _) (by decide) _).app _⟩,rfl,rfl,?_⟩
    ·rw[List.getElem?_set_ne (Ne.symm z),zh f,List.map_append]
     rfl
    ·rw[zm (by simp)]
     rfl
  ·have O:¬ b<toP first last to_:=of_decide_eq_false e
   rw[vh,if_neg O]
   simp only[go_sem]
   exact ⟨h.length,C.app (zj rfl),rfl,rfl,by simp⟩
 ·rintro T h' ⟨J,k,t0,t4,t6,t8,S⟩
  have g3:=k.b3
  have g5:∀o,(h'.set l o)[n]? =some (.box 75 (evC c)):=λo=>by rw[List.getElem?_set_ne (jW k.b3 k.b5 (by decide))];exact k.b5
  have g8:∀o,(h'.set l o)[J]? =some (.box 75 (evC next)):=λo=>by rw[List.getElem?_set_ne (jW k.b3 S (by decide))];exact S
  simp only[go_sem]
  refine zp rfl [] 0 [(0,0,[]),(1,0,[]),(2,0,[1]),(3,0,[])] rfl (by decide) (by decide) ?_
  simp only[go_sem,t0,t4,t6,t8,S,g3,g5,g8]
  exact ⟨.tup [],by simp only[go_sem],.inl ⟨rfl,k.next _ _⟩⟩
theorem c86 (F:List (Nat × List AV)) (h0 h:List Ob) (i:Nat) (s:Setup) (a:SA) (t:TellS) (e:Ev) (os:List Ev) (at_:Int) (N:TellIn F h0 h i s a t) (ho:t.open_=some (e,os)) (hl:t.segs.length+os.length+1<1099511627776):
  ACalls Tryz.prog 150 [.ptr i 0,i64 at_] h λr h'=>r= .tup []/\TellIn F h0 h' i s a ⟨none,(xM (qA e.at_ s.unit) (qA at_ s.unit) t e os).segs,t.flags⟩:=by
 have hex:=TellIn.ex N ⟨none,(xM (qA e.at_ s.unit) (qA at_ s.unit) t e os).segs,t.flags⟩
 have Q:=N
 obtain ⟨k1,k2,X,p,x,y,k3,k4,k5,k6⟩:=Q
 rw[ho] at k6
 obtain ⟨j,o,j1,rfl,j3,V⟩:=k6
 have S:=k1.len
 have L:∀M,(h++M)[i]? =some (.box 138 (xZ s a (.ptr j 0) x y)):=λM=>zb k3
 have O:∀M,(h++M)[j]? =some (.box 236 (W0 e o)):=λM=>zb j3
 refine zf Tryz.f150 [] 66 rfl rfl rfl rfl rfl rfl (by decide) (hex) λB=>?_
 simp only[go_sem]
 refine zp rfl [.res,.res] 2 [(14,0,[]),(0,0,[]),(1,0,[]),(2,0,[]),(3,0,[]),(4,0,[]),(5,0,[]),(6,0,[]),(7,0,[]),(8,0,[]),(9,0,[]),(10,0,[]),(11,0,[]),(12,0,[]),(15,0,[]),(16,0,[]),(17,0,[]),(18,0,[]),(19,0,[]),(13,0,[15,19]),(20,0,[]),(21,0,[]),(22,1,[]),(23,0,[]),(24,0,[])] rfl (by decide) (by decide) ?_
 simp only[go_sem,L,O]
 refine zd (c36 _ _ _) ?_
 rintro _ h1 ⟨rfl,H⟩
 subst H
 simp only[go_sem,L,O]
 refine zd (c36 _ _ _) ?_
 rintro _ h1 ⟨rfl,H⟩
 subst H
 have hr:∀M,zo (h++M) o=some (os.map evC):=λM=>(V.app M).rows.rows
 obtain ⟨first,b⟩:∃f,f=qA e.at_ s.unit:=⟨_,rfl⟩
 obtain ⟨last,l⟩:∃f,f=qA at_ s.unit:=⟨_,rfl⟩
 rw[<-b, <-l]
 simp only[go_sem,L,O,hr,List.length_map]
 have E:PartIn F h0 (h++[.box 135 [.ptr i 0],.box 3 [i64 first],.box 3 [i64 last],.box 3 [i64 first],.box 75 (evC e)]) i (h.length+1) (h.length+2) (h.length+3) (h.length+0) (h.length+4) s a o (os.map evC) first last first e t:=
  ⟨by omega,by omega,by omega,by omega,λz D=>by
   have:=X z D
   have:=(List.getElem?_eq_some_iff.1 this).1
   omega,by rw[zl rfl];rfl,by rw[zl rfl];rfl,by rw[zl rfl];rfl,by rw[zl rfl];rfl,by rw[zl rfl];rfl,N.app (zg rfl (zg rfl (zg rfl (zg rfl (zj rfl))))),V.app _⟩
 refine zk (by decide) (λm T h'=>∃k:Nat,k<=os.length/\PartIn F h0 h' i (h.length+1) (h.length+2) (h.length+3) h.length (h.length+4) s a o (os.map evC) first last (xh first last t e (os.take k)).1 (xh first last t e (os.take k)).2.1 (xh first last t e (os.take k)).2.2/\T 2= .ptr h.length 0/\T 5= .ptr (h.length+2) 0/\T 8= .fn (.func 218) [] [.ptr (h.length+1) 0,.ptr (h.length+2) 0,.ptr (h.length+3) 0,.ptr h.length 0,.ptr (h.length+4) 0]/\T 47=o/\T 48=i64 os.length/\T 49=i64 k/\m=os.length - k) os.length
  ⟨0,by omega,E,by simp only[go_sem],by simp only[go_sem],by simp only[go_sem],by simp only[go_sem],by simp only[go_sem],by (simp only[go_sem]<;>rfl),rfl⟩ ?_
 rintro m T h' ⟨k,hk,w,t2,t5,t8,C,u,d,rfl⟩
 simp only[go_sem,u,d]
 refine ways (λG=>?_) (λG=>?_)
 ·have g:=dlt G
  have R:SlOf h' o 11 (os.map evC):=w.b6.rows
  have P:=R.at (i:=k) (by simpa using g)
  have I:=R.rows
  have n:(os.map evC)[k]? =some (evC os[k]):=qH (List.getElem?_eq_getElem g)
  have J:(k:Int)<os.length:=by omega
  simp only[go_sem,C,d,P,I,n,J,List.length_map,Int.toNat_natCast,Int.natCast_nonneg,t8]
  have c:xh first last t e (os.take (k+1))=vi first last (xh first last t e (os.take k)) os[k]:=by
   rw[xh, <-List.take_append_getElem g,List.foldl_append]
   rfl
  have D:(xh first last t e (os.take k)).2.2.segs.length<=t.segs.length+(os.take k).length:=QT (os.take k) (z:=(first,e,t))
  rw[List.length_take] at D
  refine zd (QUa F h0 _ i _ _ _ _ _ s a o (os.map evC) _ first last _ os[k].at_ _ os[k] (w.app (zj rfl)) (by omega)) ?_
  rintro _ h3 ⟨rfl,q⟩
  simp only[go_sem,d]
  refine ⟨os.length - (k+1),by omega,k+1,by omega,?_,t2,t5,t8,C,u,zw (by omega) rfl,rfl⟩
  rw[c]
  exact q
 ·have W:=jk G
  have K:k=os.length:=by omega
  subst K
  rw[List.take_length] at w
  have Z:=w.b2
  have D:(xh first last t e os).2.2.segs.length<=t.segs.length+os.length:=QT os (z:=(first,e,t))
  simp only[go_sem,t8,t5,Z]
  refine zd (QUa F h0 _ i _ _ _ _ _ s a o (os.map evC) _ first last _ last _ ⟨0,0,0,0,0,0,0,0,0,0,0⟩ w (by omega)) ?_
  rintro _ h3 ⟨rfl,q⟩
  have q4:=q.b4
  obtain ⟨Y,U,mf,p',x',y',A,m4,m5,m6⟩:=q.t
  simp only[go_sem,t2,q4,A]
  exact ⟨.tup [],by simp only[go_sem],.inl ⟨rfl,Y.set U rfl,U,mf.set_box A (by decide) _,_,_,_,zh A,m4.set_box A _,(by
   have:=m5.set_box A (o:= .box 138 (xZ s a (.v (.pointer none)) x' y'))
   rw[Jp,W3] at this
   exact this),rfl⟩⟩
def vN (s:Setup) (t:TellS) (e:Ev) (os:List Ev) (at_:Int):TellS:=⟨none,(xM (qA e.at_ s.unit) (qA at_ s.unit) t e os).segs,t.flags⟩
def qO (s:Setup) (t:TellS) (at_:Int):TellS:=match t.open_ with
 | none=>t
 | some (e,os)=>if at_>wr (e.at_+s.cap) then vN s (xL t e 1) e os (wr (e.at_+s.cap)) else t
def Zz (s:Setup) (t:TellS) (e:Ev):TellS:=
 if e.kind=1 then (match (qO s t e.at_).open_ with
  | none=>⟨some (e,[]),(qO s t e.at_).segs,(qO s t e.at_).flags⟩
  | some (f,os)=>⟨some (e,[]),(vN s (xL (qO s t e.at_) f 2) f os e.at_).segs,(vN s (xL (qO s t e.at_) f 2) f os e.at_).flags⟩)
 else match (qO s t e.at_).open_ with
  | none=>xL (qO s t e.at_) e 3
  | some (f,os)=>if e.kind=2 then vN s (qO s t e.at_) f os e.at_ else ⟨some (f,os++[e]),(qO s t e.at_).segs,(qO s t e.at_).flags⟩
def szO:Option (Ev × List Ev)->Nat
 | none=>0
 | some (_,os)=>os.length+1
def szT (t:TellS):Nat:=t.segs.length+t.flags.length+szO t.open_
theorem KB {first last:Int} {t:TellS} {e:Ev} {os:List Ev}:(xM first last t e os).segs.length<=t.segs.length+os.length+1:=by
 have a:=K3 (t:=(xh first last t e os).2.2) (b:=(xh first last t e os).1) (to_:=toP first last last) (e:=(xh first last t e os).2.1)
 have c:(xh first last t e os).2.2.segs.length<=t.segs.length+os.length:=QT os (z:=(first,e,t))
 unfold xM
 omega
theorem XE {t:TellS} {e:Ev} {k:Int}:szT (xL t e k)=szT t+1:=by simp[szT,xL];omega
theorem QV {s:Setup} {t:TellS} {e:Ev} {os:List Ev} {at_:Int} (h:t.open_=some (e,os)):szT (vN s t e os at_)<=szT t:=by
 have:=KB (first:=qA e.at_ s.unit) (last:=qA at_ s.unit) (t:=t) (e:=e) (os:=os)
 simp only[szT,vN,h,szO]
 omega
theorem Qw {s:Setup} {t:TellS} {at_:Int}:szT (qO s t at_)<=szT t+1:=by
 unfold qO
 split
 ·omega
 ·rename_i e os a
  split
  ·have:=QV (s:=s) (t:=xL t e 1) (e:=e) (os:=os) (at_:=wr (e.at_+s.cap)) a
   rw[XE] at this
   exact this
  ·omega
theorem kNa {s:Setup} {t:TellS} {e:Ev}:szT (Zz s t e)<=szT t+3:=by
 have b:=Qw (s:=s) (t:=t) (at_:=e.at_)
 unfold Zz
 split
 ·split
  ·rename_i a
   simp only[szT,szO,a,List.length_nil] at b⊢
   omega
  ·rename_i f os a
   have:=QV (s:=s) (t:=xL (qO s t e.at_) f 2) (e:=f) (os:=os) (at_:=e.at_) a
   rw[XE] at this
   simp only[szT,szO,vN,List.length_nil] at this b⊢
   omega
 ·split
  ·rw[XE];omega
  ·rename_i f os a
   split
   ·have:=QV (s:=s) (t:=qO s t e.at_) (e:=f) (os:=os) (at_:=e.at_) a
    omega
   ·simp only[szT,szO,a,List.length_append,List.length_cons,List.length_nil] at b⊢
    omega
end Go.Proofs.YtigdlmpjijhpaaaGreat.Ax
