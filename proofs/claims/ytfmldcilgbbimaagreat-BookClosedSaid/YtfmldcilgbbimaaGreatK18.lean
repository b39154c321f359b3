/-
  Joined.
-/
import Derived.Test.YtfmldcilgbbimaaGreatK17
set_option linter.unusedSimpArgs false
set_option linter.unusedVariables false
namespace Go.Proofs.YtfmldcilgbbimaaGreat.Ax
open Go Go.Proofs
set_option maxRecDepth 100000
attribute [go_sem] XDa XJa XBa XCa VDa Vza VAa XFa XOa Waa
theorem Zj {a b:Int}:(if b<a then b else a)=min a b:=by split<;>omega
theorem Zk {a b:Int}:(if b>a then b else a)=max a b:=by split<;>omega
def zO (n a:Int):Int:=min (max n 0) a
theorem c69 (n a:Int):ji Tryz.prog 156 [i64 n,i64 a] (i64 (zO n a)):=λh=>by
 refine zf Tryz.f156 [.tmp 4] 9 rfl rfl rfl rfl rfl rfl (by decide) (⟨_,_,⟨rfl,rfl⟩,.refl⟩) λB=>?_
 simp only[go_sem]
 (first | refine zd ?_ | refine ze ?_ (by rfl))<;>(simp only[go_sem,zO,Zj,Zk]<;>try rfl)
def ofI (n a:Int):Int:=wr ((zO n 32054399).tdiv a)
theorem c51 (n a:Int) (b:¬ a=0):ji Tryz.prog 126 [i64 n,i64 a] (i64 (ofI n a)):=λh=>by
 refine zf Tryz.f126 [.tmp 4] 9 rfl rfl rfl rfl rfl rfl (by decide) (⟨_,_,⟨rfl,rfl⟩,.refl⟩) λB=>?_
 simp only[go_sem]
 refine zc (c69 _ _ _) ?_
 rintro _ _ ⟨rfl,rfl⟩
 simp only[go_sem,b]
 (first | refine zd ?_ | refine ze ?_ (by rfl))<;>(simp only[go_sem,ofI]<;>try rfl)
def jX (n:Int):Int:=ofI n 604800
theorem c17 (n:Int):ji Tryz.prog 58 [i64 n] (i64 (jX n)):=λh=>by
 refine zf Tryz.f58 [.tmp 2] 5 rfl rfl rfl rfl rfl rfl (by decide) (⟨_,_,⟨rfl,rfl⟩,.refl⟩) λB=>?_
 simp only[go_sem]
 refine zc (c51 _ _ (by decide) _) ?_
 rintro _ _ ⟨rfl,rfl⟩
 simp only[go_sem]
 (first | refine zd ?_ | refine ze ?_ (by rfl))<;>(simp only[go_sem,jX]<;>try rfl)
def xE (a b:Int):Int × Int:=if a.tmod b<0 then (wr (wr (a.tdiv b) - 1),wr (a.tmod b+b)) else (wr (a.tdiv b),a.tmod b)
abbrev Q4 (p:Int × Int):AV:= .tup [i64 p.1,i64 p.2]
theorem c97 (a b:Int) (d:¬ b=0):ji Tryz.prog 191 [i64 a,i64 b] (Q4 (xE a b)):=λh=>by
 refine zf Tryz.f191 [.tmp 4,.tmp 5] 21 rfl rfl rfl rfl rfl rfl (by decide) (⟨_,_,⟨rfl,rfl⟩,.refl⟩) λB=>?_
 simp only[go_sem]
 refine zn rfl [] 0 [(0,0,[]),(1,0,[]),(2,0,[]),(3,0,[]),(4,0,[]),(5,0,[]),(6,0,[]),(7,0,[])] rfl (by decide) (by decide) ?_
 simp only[go_sem,d]
 refine ways (λe=>?_) (λe=>?_)
 ·have c:a.tmod b<0:=by simpa using e
  simp only[go_sem]
  (first | refine zd ?_ | refine ze ?_ (by rfl))<;>(simp only[go_sem,xE,c]<;>try rfl)
 ·have c:¬ a.tmod b<0:=by simpa using e
  simp only[go_sem]
  (first | refine zd ?_ | refine ze ?_ (by rfl))<;>(simp only[go_sem,xE,c]<;>try rfl)
def Kx (n d:Int):Int × Int:=if d<=0 then (0,20) else if (xE n d).2≥wr (d - (xE n d).2) then (wr ((xE n d).1+1),0) else ((xE n d).1,0)
theorem c70 (n d:Int):ji Tryz.prog 190 [i64 n,i64 d] (Q4 (Kx n d)):=λh=>by
 refine zf Tryz.f190 [.tmp 4,.tmp 5] 24 rfl rfl rfl rfl rfl rfl (by decide) (⟨_,_,⟨rfl,rfl⟩,.refl⟩) λB=>?_
 simp only[go_sem]
 refine ways (λe=>?_) (λe=>?_)
 ·have b:d<=0:=by simpa using e
  simp only[go_sem]
  (first | refine zd ?_ | refine ze ?_ (by rfl))<;>(simp only[go_sem,Kx,b]<;>try rfl)
 ·have b:¬ d<=0:=by simpa using e
  simp only[go_sem]
  refine zc (c97 n d (by omega) _) ?_
  rintro _ _ ⟨rfl,rfl⟩
  simp only[go_sem]
  refine ways (λa=>?_) (λa=>?_)
  ·have a:(xE n d).2≥wr (d - (xE n d).2):=by simpa using a
   simp only[go_sem]
   (first | refine zd ?_ | refine ze ?_ (by rfl))<;>(simp only[go_sem,Kx,b,a]<;>try rfl)
  ·have a:¬ (xE n d).2≥wr (d - (xE n d).2):=by simpa using a
   simp only[go_sem]
   (first | refine zd ?_ | refine ze ?_ (by rfl))<;>(simp only[go_sem,Kx,b,a]<;>try rfl)
def qp (t u:Int):Int:=if u<1 then zO t 32054400 else min (wr ((Kx (zO t 32054400) u).1*min u 64108801)) 32054400
theorem c36 (t u:Int):ji Tryz.prog 199 [i64 t,i64 u] (i64 (qp t u)):=λh=>by
 refine zf Tryz.f199 [.tmp 4] 23 rfl rfl rfl rfl rfl rfl (by decide) (⟨_,_,⟨rfl,rfl⟩,.refl⟩) λB=>?_
 simp only[go_sem]
 refine zc (c69 _ _ _) ?_
 rintro _ _ ⟨rfl,rfl⟩
 simp only[go_sem]
 refine ways (λe=>?_) (λe=>?_)
 ·have a:u<1:=by simpa using e
  simp only[go_sem]
  (first | refine zd ?_ | refine ze ?_ (by rfl))<;>(simp only[go_sem,qp,a]<;>try rfl)
 ·have a:¬ u<1:=by simpa using e
  simp only[go_sem]
  refine zc (c70 _ _ _) ?_
  rintro _ _ ⟨rfl,rfl⟩
  simp only[go_sem]
  (first | refine zd ?_ | refine ze ?_ (by rfl))<;>(simp only[go_sem,qp,a,Zj]<;>try rfl)
theorem Wla (e:Ev):ji Tryz.prog 201 [evV e] (i64 (Z8 e.kind)):=λh=>by
 refine zf Tryz.f201 [.tmp 2] 11 rfl rfl rfl rfl rfl rfl (by decide) (⟨_,_,⟨rfl,rfl⟩,.refl⟩) λB=>?_
 simp only[go_sem]
 refine ways (λa=>?_) (λa=>?_)
 ·simp only[go_sem]
  have a:e.kind=3:=by simpa using a
  (first | refine zd ?_ | refine ze ?_ (by rfl))<;>(simp only[go_sem,Z8,a]<;>try rfl)
 ·simp only[go_sem]
  have a:¬ e.kind=3:=by simpa using a
  refine ways (λb=>?_) (λb=>?_)
  ·simp only[go_sem]
   have b:e.kind=4:=by simpa using b
   (first | refine zd ?_ | refine ze ?_ (by rfl))<;>(simp only[go_sem,Z8,a,b]<;>try rfl)
  ·simp only[go_sem]
   have b:¬ e.kind=4:=by simpa using b
   refine ways (λc=>?_) (λc=>?_)
   ·simp only[go_sem]
    have c:e.kind=5:=by simpa using c
    (first | refine zd ?_ | refine ze ?_ (by rfl))<;>(simp only[go_sem,Z8,a,b,c]<;>try rfl)
   ·simp only[go_sem]
    have c:¬ e.kind=5:=by simpa using c
    (first | refine zd ?_ | refine ze ?_ (by rfl))<;>(simp only[go_sem,Z8,a,b,c]<;>try rfl)
theorem c90 (h:List Ob) (i j:Nat) (s:Setup) (a:SA) (x y o:AV) (e:Ev) (c:h[i]? =some (.box 129 (vh s a (.ptr j 0) x y))) (b:h[j]? =some (.box 216 (qQa e o))):
  ACalls Tryz.prog 137 [.ptr i 0] h λr h'=>r=i64 (wr (e.at_+s.cap))/\h'=h:=by
 refine zf Tryz.f137 [.tmp 2] 17 rfl rfl rfl rfl rfl rfl (by decide) (⟨_,_,⟨rfl,rfl⟩,.refl⟩) λB=>?_
 simp only[go_sem]
 refine zn rfl [] 0 [(0,0,[]),(1,0,[]),(2,0,[]),(8,0,[]),(9,0,[]),(10,0,[]),(11,0,[]),(3,0,[]),(4,0,[]),(5,0,[]),(6,0,[]),(7,0,[]),(12,0,[]),(13,0,[]),(14,0,[])] rfl (by decide) (by decide) ?_
 simp only[go_sem,c,b]
 (first | refine zd ?_ | refine ze ?_ (by rfl))<;>(simp only[go_sem]<;>try rfl)
theorem c85 (F:List (Nat × List AV)) (h0 h:List Ob) (i:Nat) (s:Setup) (a:SA) (t:TellS) (e:Ev) (k:Int) (A:TellIn F h0 h i s a t) (D:t.flags.length<1099511627776):
  ACalls Tryz.prog 135 [.ptr i 0,evV e,i64 k] h λr h'=>r= .tup []/\TellIn F h0 h' i s a (js t e k):=by
 obtain ⟨k1,k2,m,p,x,y,k3,k4,k5,k6⟩:=A
 have w:∀M,(h++M)[i]? =some (.box 129 (vh s a p x y)):=λM=>zb k3
 have z:∀M o,(h++M).set i o=h.set i o++M:=λM o=>qd k3
 have hex:=TellIn.ex (t:=t) ⟨k1,k2,m,p,x,y,k3,k4,k5,k6⟩ (js t e k)
 have v:=k1.len
 rcases k5 with ⟨rfl,C⟩ | ⟨id,st,u,rfl,d⟩
 ·refine zf Tryz.f135 [] 19 rfl rfl rfl rfl rfl rfl (by decide) (hex) λB=>?_
  simp only[go_sem]
  refine zn rfl [.res] 1 [(0,0,[]),(1,0,[]),(2,0,[]),(3,0,[]),(5,0,[]),(7,0,[]),(4,0,[]),(6,0,[]),(8,0,[]),(9,0,[]),(10,0,[]),(11,0,[]),(12,0,[]),(13,0,[])] rfl (by decide) (by decide) ?_
  simp only[go_sem,w,z]
  refine ⟨.tup [],by simp only[go_sem],.inl ⟨rfl,(k1.set k2 rfl).app (zg rfl (zg rfl (zi rfl))),k2,(m.set_box k3 (by decide) _).app _,_,_,_,zb (zh k3),(k4.set_box k3 _).app _,.inr ⟨h.length+2,0,by omega,rfl,?_⟩,(k6.set_box k3 (by decide) _).app _⟩⟩
  rw[zm (by simp),js,List.map_append,C]
  rfl
 ·have hid:∀M,(h++M)[id]? =some (.row 97 2 (t.flags.map xv) st):=λM=>zb d
  have n:∀M o,(h++M).set id o=h.set id o++M:=λM o=>qd d
  have b:id≠i:=λq=>by rw[q,k3] at d;cases d
  have l:∀M o,(h.set id o++M)[i]? =some (.box 129 (vh s a p x (.tl id st))):=λM o=>zb (by rw[List.getElem?_set_ne b];exact k3)
  have g:∀M o f,(h.set id o++M).set i f=(h.set id o).set i f++M:=λM o f=>qd (by rw[List.getElem?_set_ne b];exact k3)
  have j:((t.flags.map xv).length+1)*17<=140737488355328:=by rw[List.length_map];omega
  refine zf Tryz.f135 [] 19 rfl rfl rfl rfl rfl rfl (by decide) (hex) λB=>?_
  simp only[go_sem]
  refine zn rfl [.res] 1 [(0,0,[]),(1,0,[]),(2,0,[]),(3,0,[]),(5,0,[]),(7,0,[]),(4,0,[]),(6,0,[]),(8,0,[]),(9,0,[]),(10,0,[]),(11,0,[]),(12,0,[]),(13,0,[])] rfl (by decide) (by decide) ?_
  simp only[go_sem,w,z,hid,n,l,g,j]
  have c:∀o,(h.set id o)[i]? =some (.box 129 (vh s a p x (.tl id st))):=λo=>by rw[List.getElem?_set_ne b];exact k3
  refine ⟨.tup [],by simp only[go_sem],.inl ⟨rfl,((k1.set u rfl).set k2 rfl).app (zg rfl (zi rfl)),k2,((m.set_row d _).set_box (c _) (by decide) _).app _,_,_,_,zb (zh (c _)),((k4.set_row d (by decide) _).set_box (c _) _).app _,.inr ⟨id,st+1,u,rfl,zb ?_⟩,((k6.set_row d (by decide) _).set_box (c _) (by decide) _).app _⟩⟩
  rw[List.getElem?_set_ne (Ne.symm b),zh d,js,List.map_append]
  rfl
theorem Wma (F:List (Nat × List AV)) (h0 h:List Ob) (i z nl l nt m:Nat) (s:Setup) (a:SA) (S:AV) (n:List (List AV)) (t:TellS) (first last b to_:Int) (c next:Ev) (C:PartIn F h0 h i z nl l nt m s a S n first last b c t) (hl:t.segs.length<1099511627776):
  ACalls Tryz.prog 200 [i64 to_,evV next,.ptr z 0,.ptr nl 0,.ptr l 0,.ptr nt 0,.ptr m 0] h λr h'=>r= .tup []/\PartIn F h0 h' i z nl l nt m s a S n first last (toP first last to_) next (va t b (toP first last to_) c):=by
 have hex:=C.any (toP first last to_) next (va t b (toP first last to_) c)
 refine zf Tryz.f200 [] 37 rfl rfl rfl rfl rfl rfl (by decide) (hex) λB=>?_
 rw[jn,jn]
 refine Zi (λT h'=>∃J,PartIn F h0 h' i z nl l nt m s a S n first last b c (va t b (toP first last to_) c)/\T 0=i64 (toP first last to_)/\T 4= .ptr l 0/\T 6= .ptr m 0/\T 8= .ptr J 0/\h'[J]? =some (.box 73 (evC next))) ?_ ?_
 ·have N:=C
  obtain ⟨n1,n2,n3,n4,n5,b1,b2,b3,b4,b5,⟨k1,k2,kf,p,x,y,k3,k4,k5,k6⟩,b6⟩:=N
  have δ:=k1.len
  have A:∀M,(h++M)[z]? =some (.box 3 [i64 first]):=λM=>zb b1
  have g:∀M,(h++M)[nl]? =some (.box 3 [i64 last]):=λM=>zb b2
  have v:∀M,(h++M)[l]? =some (.box 3 [i64 b]):=λM=>zb b3
  have E:∀M,(h++M)[nt]? =some (.box 126 [.ptr i 0]):=λM=>zb b4
  have D:∀M,(h++M)[m]? =some (.box 73 (evC c)):=λM=>zb b5
  simp only[go_sem,A,g,v,E,D,Zj,Zk]
  refine ways (λe=>?_) (λe=>?_)
  ·have K:b<toP first last to_:=of_decide_eq_true e
   rw[va,if_pos K]
   have I:∀M,(h++M)[i]? =some (.box 129 (vh s a p x y)):=λM=>zb k3
   have H:∀M o,(h++M).set i o=h.set i o++M:=λM o=>qd k3
   rcases k4 with ⟨rfl,hn⟩ | ⟨id,st,q1,rfl,f⟩
   ·simp only[go_sem]
    refine zn rfl [.res] 1 [(6,0,[]),(9,0,[]),(11,0,[]),(0,0,[]),(1,0,[]),(2,0,[]),(3,0,[]),(4,0,[]),(5,0,[]),(7,0,[]),(10,0,[]),(12,0,[]),(8,0,[0,1,4,5,10,12]),(13,0,[]),(14,0,[]),(15,0,[0]),(16,0,[]),(17,0,[]),(18,0,[])] rfl (by decide) (by decide) ?_
    simp only[go_sem,A,g,v,E,D,I,H]
    refine zc (Wla c _) ?_
    rintro _ h1 ⟨rfl,g⟩
    subst g
    simp only[go_sem,A,g,v,E,D,I,H]
    refine ⟨h.length,C.tell ⟨(k1.set k2 rfl).app (zg rfl (zg rfl (zi rfl))),k2,(kf.set_box k3 (by decide) _).app _,_,_,_,zb (zh k3),.inr ⟨h.length+2,0,by omega,rfl,?_⟩,(k5.set_box k3 _).app _,(k6.set_box k3 (by decide) _).app _⟩,rfl,rfl,?_⟩
    ·rw[zm (by simp),List.map_append,hn]
     rfl
    ·rw[zo (by simp)]
     rfl
   ·have hid:∀M,(h++M)[id]? =some (.row 137 5 (t.segs.map jo) st):=λM=>zb f
    have Z:∀M o,(h++M).set id o=h.set id o++M:=λM o=>qd f
    have G:id≠i:=λq=>by rw[q,k3] at f;cases f
    have d:∀o,(h.set id o)[i]? =some (.box 129 (vh s a p (.tl id st) y)):=λo=>by rw[List.getElem?_set_ne G];exact k3
    have P:∀M o,(h.set id o++M)[i]? =some (.box 129 (vh s a p (.tl id st) y)):=λM o=>zb (d o)
    have W:∀M o L,(h.set id o++M).set i L=(h.set id o).set i L++M:=λM o L=>qd (d o)
    have O:((t.segs.map jo).length+1)*41<=140737488355328:=by rw[List.length_map];omega
    have w:∀ {j u:Nat} {cs:List AV},h[j]? =some (.box u cs)->∀o M,(h.set id o++M)[j]? =some (.box u cs):=λhj o M=>zb (by
     rw[List.getElem?_set_ne (λq=>by rw[q,hj] at f;cases f)];exact hj)
    have R:=w b1
    have α:=w b2
    have U:=w b3
    have Y:=w b4
    have Q:=w b5
    simp only[go_sem]
    refine zn rfl [.res] 1 [(6,0,[]),(9,0,[]),(11,0,[]),(0,0,[]),(1,0,[]),(2,0,[]),(3,0,[]),(4,0,[]),(5,0,[]),(7,0,[]),(10,0,[]),(12,0,[]),(8,0,[0,1,4,5,10,12]),(13,0,[]),(14,0,[]),(15,0,[0]),(16,0,[]),(17,0,[]),(18,0,[])] rfl (by decide) (by decide) ?_
    simp only[go_sem,A,g,v,E,D,I,H]
    refine zc (Wla c _) ?_
    rintro _ h1 ⟨rfl,g⟩
    subst g
    simp only[go_sem,A,g,v,E,D,I,H,hid,Z,P,W,O,R,α,U,Y,Q]
    refine ⟨h.length,C.tell2 f (by decide) ⟨((k1.set q1 rfl).set k2 rfl).app (zg rfl (zi rfl)),k2,((kf.set_row f _).set_box (d _) (by decide) _).app _,_,_,_,zb (zh (d _)),.inr ⟨id,st+1,q1,rfl,zb ?_⟩,((k5.set_row f (by decide) _).set_box (d _) _).app _,((k6.set_row f (by decide) _).set_box (d _) (by decide) _).app _⟩,rfl,rfl,?_⟩
    ·rw[List.getElem?_set_ne (Ne.symm G),zh f,List.map_append]
     rfl
    ·rw[zo (by simp)]
     rfl
  ·have X:¬ b<toP first last to_:=of_decide_eq_false e
   rw[va,if_neg X]
   simp only[go_sem]
   exact ⟨h.length,C.app (zi rfl),rfl,rfl,by simp⟩
 ·rintro T h' ⟨J,k,t0,t4,t6,t8,V⟩
  have g3:=k.b3
  have g5:∀o,(h'.set l o)[m]? =some (.box 73 (evC c)):=λo=>by rw[List.getElem?_set_ne (xD k.b3 k.b5 (by decide))];exact k.b5
  have g8:∀o,(h'.set l o)[J]? =some (.box 73 (evC next)):=λo=>by rw[List.getElem?_set_ne (xD k.b3 V (by decide))];exact V
  simp only[go_sem]
  refine zn rfl [] 0 [(0,0,[]),(1,0,[]),(2,0,[1]),(3,0,[])] rfl (by decide) (by decide) ?_
  simp only[go_sem,t0,t4,t6,t8,V,g3,g5,g8]
  exact ⟨.tup [],by simp only[go_sem],.inl ⟨rfl,k.next _ _⟩⟩
theorem c86 (F:List (Nat × List AV)) (h0 h:List Ob) (i:Nat) (s:Setup) (a:SA) (t:TellS) (e:Ev) (os:List Ev) (at_:Int) (E:TellIn F h0 h i s a t) (W:t.open_=some (e,os)) (hl:t.segs.length+os.length+1<1099511627776):
  ACalls Tryz.prog 136 [.ptr i 0,i64 at_] h λr h'=>r= .tup []/\TellIn F h0 h' i s a ⟨none,(kO (qp e.at_ s.unit) (qp at_ s.unit) t e os).segs,t.flags⟩:=by
 have hex:=TellIn.ex E ⟨none,(kO (qp e.at_ s.unit) (qp at_ s.unit) t e os).segs,t.flags⟩
 have G:=E
 obtain ⟨k1,k2,kf,p,x,y,k3,k4,k5,k6⟩:=G
 rw[W] at k6
 obtain ⟨j,o,j1,rfl,X,S⟩:=k6
 have V:=k1.len
 have L:∀M,(h++M)[i]? =some (.box 129 (vh s a (.ptr j 0) x y)):=λM=>zb k3
 have H:∀M,(h++M)[j]? =some (.box 216 (qQa e o)):=λM=>zb X
 refine zf Tryz.f136 [] 66 rfl rfl rfl rfl rfl rfl (by decide) (hex) λB=>?_
 simp only[go_sem]
 refine zn rfl [.res,.res] 2 [(14,0,[]),(0,0,[]),(1,0,[]),(2,0,[]),(3,0,[]),(4,0,[]),(5,0,[]),(6,0,[]),(7,0,[]),(8,0,[]),(9,0,[]),(10,0,[]),(11,0,[]),(12,0,[]),(15,0,[]),(16,0,[]),(17,0,[]),(18,0,[]),(19,0,[]),(13,0,[15,19]),(20,0,[]),(21,0,[]),(22,1,[]),(23,0,[]),(24,0,[])] rfl (by decide) (by decide) ?_
 simp only[go_sem,L,H]
 refine zc (c36 _ _ _) ?_
 rintro _ h1 ⟨rfl,K⟩
 subst K
 simp only[go_sem,L,H]
 refine zc (c36 _ _ _) ?_
 rintro _ h1 ⟨rfl,K⟩
 subst K
 have hr:∀M,zq (h++M) o=some (os.map evC):=λM=>(S.app M).rows.rows
 obtain ⟨first,b⟩:∃f,f=qp e.at_ s.unit:=⟨_,rfl⟩
 obtain ⟨last,l⟩:∃f,f=qp at_ s.unit:=⟨_,rfl⟩
 rw[<-b, <-l]
 simp only[go_sem,L,H,hr,List.length_map]
 have N:PartIn F h0 (h++[.box 126 [.ptr i 0],.box 3 [i64 first],.box 3 [i64 last],.box 3 [i64 first],.box 73 (evC e)]) i (h.length+1) (h.length+2) (h.length+3) (h.length+0) (h.length+4) s a o (os.map evC) first last first e t:=
  ⟨by omega,by omega,by omega,by omega,λz D=>by
   have:=kf z D
   have:=(List.getElem?_eq_some_iff.1 this).1
   omega,by rw[zm rfl];rfl,by rw[zm rfl];rfl,by rw[zm rfl];rfl,by rw[zm rfl];rfl,by rw[zm rfl];rfl,E.app (zg rfl (zg rfl (zg rfl (zg rfl (zi rfl))))),S.app _⟩
 refine zj (by decide) (λm T h'=>∃k:Nat,k<=os.length/\PartIn F h0 h' i (h.length+1) (h.length+2) (h.length+3) h.length (h.length+4) s a o (os.map evC) first last (xT first last t e (os.take k)).1 (xT first last t e (os.take k)).2.1 (xT first last t e (os.take k)).2.2/\T 2= .ptr h.length 0/\T 5= .ptr (h.length+2) 0/\T 8= .fn (.func 200) [] [.ptr (h.length+1) 0,.ptr (h.length+2) 0,.ptr (h.length+3) 0,.ptr h.length 0,.ptr (h.length+4) 0]/\T 47=o/\T 48=i64 os.length/\T 49=i64 k/\m=os.length - k) os.length
  ⟨0,by omega,N,by simp only[go_sem],by simp only[go_sem],by simp only[go_sem],by simp only[go_sem],by simp only[go_sem],by (simp only[go_sem]<;>rfl),rfl⟩ ?_
 rintro m T h' ⟨k,hk,w,t2,t5,t8,A,n,g,rfl⟩
 simp only[go_sem,n,g]
 refine ways (λJ=>?_) (λJ=>?_)
 ·have c:=dlt J
  have R:SlOf h' o 11 (os.map evC):=w.b6.rows
  have P:=R.at (i:=k) (by simpa using c)
  have O:=R.rows
  have C:(os.map evC)[k]? =some (evC os[k]):=qX (List.getElem?_eq_getElem c)
  have Q:(k:Int)<os.length:=by omega
  simp only[go_sem,A,g,P,O,C,Q,List.length_map,Int.toNat_natCast,Int.natCast_nonneg,t8]
  have d:xT first last t e (os.take (k+1))=kN first last (xT first last t e (os.take k)) os[k]:=by
   rw[xT, <-List.take_append_getElem c,List.foldl_append]
   rfl
  have D:(xT first last t e (os.take k)).2.2.segs.length<=t.segs.length+(os.take k).length:=XM (os.take k) (z:=(first,e,t))
  rw[List.length_take] at D
  refine zc (Wma F h0 _ i _ _ _ _ _ s a o (os.map evC) _ first last _ os[k].at_ _ os[k] (w.app (zi rfl)) (by omega)) ?_
  rintro _ h3 ⟨rfl,q⟩
  simp only[go_sem,g]
  refine ⟨os.length - (k+1),by omega,k+1,by omega,?_,t2,t5,t8,A,n,zx (by omega) rfl,rfl⟩
  rw[d]
  exact q
 ·have η:=qU J
  have I:k=os.length:=by omega
  subst I
  rw[List.take_length] at w
  have g2:=w.b2
  have D:(xT first last t e os).2.2.segs.length<=t.segs.length+os.length:=XM os (z:=(first,e,t))
  simp only[go_sem,t8,t5,g2]
  refine zc (Wma F h0 _ i _ _ _ _ _ s a o (os.map evC) _ first last _ last _ ⟨0,0,0,0,0,0,0,0,0,0,0⟩ w (by omega)) ?_
  rintro _ h3 ⟨rfl,q⟩
  have Z:=q.b4
  obtain ⟨Y,U,mf,p',x',y',u,m4,m5,m6⟩:=q.t
  simp only[go_sem,t2,Z,u]
  exact ⟨.tup [],by simp only[go_sem],.inl ⟨rfl,Y.set U rfl,U,mf.set_box u (by decide) _,_,_,_,zh u,m4.set_box u _,(by
   have:=m5.set_box u (o:= .box 129 (vh s a (.v (.pointer none)) x' y'))
   rw[Kw,qRa] at this
   exact this),rfl⟩⟩
def xF (s:Setup) (t:TellS) (e:Ev) (os:List Ev) (at_:Int):TellS:=⟨none,(kO (qp e.at_ s.unit) (qp at_ s.unit) t e os).segs,t.flags⟩
def lateP (s:Setup) (t:TellS) (at_:Int):TellS:=match t.open_ with
 | none=>t
 | some (e,os)=>if at_>wr (e.at_+s.cap) then xF s (js t e 1) e os (wr (e.at_+s.cap)) else t
def xw (s:Setup) (t:TellS) (e:Ev):TellS:=
 if e.kind=1 then (match (lateP s t e.at_).open_ with
  | none=>⟨some (e,[]),(lateP s t e.at_).segs,(lateP s t e.at_).flags⟩
  | some (f,os)=>⟨some (e,[]),(xF s (js (lateP s t e.at_) f 2) f os e.at_).segs,(xF s (js (lateP s t e.at_) f 2) f os e.at_).flags⟩)
 else match (lateP s t e.at_).open_ with
  | none=>js (lateP s t e.at_) e 3
  | some (f,os)=>if e.kind=2 then xF s (lateP s t e.at_) f os e.at_ else ⟨some (f,os++[e]),(lateP s t e.at_).segs,(lateP s t e.at_).flags⟩
def szO:Option (Ev × List Ev)->Nat
 | none=>0
 | some (_,os)=>os.length+1
def szT (t:TellS):Nat:=t.segs.length+t.flags.length+szO t.open_
theorem W6 {first last:Int} {t:TellS} {e:Ev} {os:List Ev}:(kO first last t e os).segs.length<=t.segs.length+os.length+1:=by
 have a:=Yw (t:=(xT first last t e os).2.2) (b:=(xT first last t e os).1) (to_:=toP first last last) (e:=(xT first last t e os).2.1)
 have c:(xT first last t e os).2.2.segs.length<=t.segs.length+os.length:=XM os (z:=(first,e,t))
 unfold kO
 omega
theorem VP {t:TellS} {e:Ev} {k:Int}:szT (js t e k)=szT t+1:=by simp[szT,js];omega
theorem XN {s:Setup} {t:TellS} {e:Ev} {os:List Ev} {at_:Int} (h:t.open_=some (e,os)):szT (xF s t e os at_)<=szT t:=by
 have:=W6 (first:=qp e.at_ s.unit) (last:=qp at_ s.unit) (t:=t) (e:=e) (os:=os)
 simp only[szT,xF,h,szO]
 omega
theorem Xc {s:Setup} {t:TellS} {at_:Int}:szT (lateP s t at_)<=szT t+1:=by
 unfold lateP
 split
 ·omega
 ·rename_i e os a
  split
  ·have:=XN (s:=s) (t:=js t e 1) (e:=e) (os:=os) (at_:=wr (e.at_+s.cap)) a
   rw[VP] at this
   exact this
  ·omega
theorem Zia {s:Setup} {t:TellS} {e:Ev}:szT (xw s t e)<=szT t+3:=by
 have b:=Xc (s:=s) (t:=t) (at_:=e.at_)
 unfold xw
 split
 ·split
  ·rename_i a
   simp only[szT,szO,a,List.length_nil] at b⊢
   omega
  ·rename_i f os a
   have:=XN (s:=s) (t:=js (lateP s t e.at_) f 2) (e:=f) (os:=os) (at_:=e.at_) a
   rw[VP] at this
   simp only[szT,szO,xF,List.length_nil] at this b⊢
   omega
 ·split
  ·rw[VP];omega
  ·rename_i f os a
   split
   ·have:=XN (s:=s) (t:=lateP s t e.at_) (e:=f) (os:=os) (at_:=e.at_) a
    omega
   ·simp only[szT,szO,a,List.length_append,List.length_cons,List.length_nil] at b⊢
    omega
end Go.Proofs.YtfmldcilgbbimaaGreat.Ax
