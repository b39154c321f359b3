/-
  Joined.
-/
import Derived.Test.YtfmldcilgbbimaaGreatK17
set_option linter.unusedSimpArgs false
set_option linter.unusedVariables false
namespace Go.Proofs.YtfmldcilgbbimaaGreat.Ax
open Go Go.Proofs
set_option maxRecDepth 100000
attribute [go_sem] w8a yea w6a w7a ZJa ZGa ZHa yaa yja Qga
theorem wU {a b:Int}:(if b<a then b else a)=min a b:=by split<;>omega
theorem wV {a b:Int}:(if b>a then b else a)=max a b:=by split<;>omega
def qo (n a:Int):Int:=min (max n 0) a
theorem c69 (n a:Int):qX Tryz.prog 156 [i64 n,i64 a] (i64 (qo n a)):=λh=>by
 refine zf Tryz.f156 [.tmp 4] 9 rfl rfl rfl rfl rfl rfl (by decide) (⟨_,_,⟨rfl,rfl⟩,.refl⟩) λB=>?_
 simp only[go_sem]
 (first | refine zc ?_ | refine ze ?_ (by rfl))<;>(simp only[go_sem,qo,wU,wV]<;>try rfl)
def ofI (n a:Int):Int:=wr ((qo n 32054399).tdiv a)
theorem c51 (n a:Int) (b:¬ a=0):qX Tryz.prog 126 [i64 n,i64 a] (i64 (ofI n a)):=λh=>by
 refine zf Tryz.f126 [.tmp 4] 9 rfl rfl rfl rfl rfl rfl (by decide) (⟨_,_,⟨rfl,rfl⟩,.refl⟩) λB=>?_
 simp only[go_sem]
 refine zd (c69 _ _ _) ?_
 rintro _ _ ⟨rfl,rfl⟩
 simp only[go_sem,b]
 (first | refine zc ?_ | refine ze ?_ (by rfl))<;>(simp only[go_sem,ofI]<;>try rfl)
def yq (n:Int):Int:=ofI n 604800
theorem c17 (n:Int):qX Tryz.prog 58 [i64 n] (i64 (yq n)):=λh=>by
 refine zf Tryz.f58 [.tmp 2] 5 rfl rfl rfl rfl rfl rfl (by decide) (⟨_,_,⟨rfl,rfl⟩,.refl⟩) λB=>?_
 simp only[go_sem]
 refine zd (c51 _ _ (by decide) _) ?_
 rintro _ _ ⟨rfl,rfl⟩
 simp only[go_sem]
 (first | refine zc ?_ | refine ze ?_ (by rfl))<;>(simp only[go_sem,yq]<;>try rfl)
def ji (a b:Int):Int × Int:=if a.tmod b<0 then (wr (wr (a.tdiv b) - 1),wr (a.tmod b+b)) else (wr (a.tdiv b),a.tmod b)
abbrev QP (p:Int × Int):AV:= .tup [i64 p.1,i64 p.2]
theorem c97 (a b:Int) (d:¬ b=0):qX Tryz.prog 191 [i64 a,i64 b] (QP (ji a b)):=λh=>by
 refine zf Tryz.f191 [.tmp 4,.tmp 5] 21 rfl rfl rfl rfl rfl rfl (by decide) (⟨_,_,⟨rfl,rfl⟩,.refl⟩) λB=>?_
 simp only[go_sem]
 refine zp rfl [] 0 [(0,0,[]),(1,0,[]),(2,0,[]),(3,0,[]),(4,0,[]),(5,0,[]),(6,0,[]),(7,0,[])] rfl (by decide) (by decide) ?_
 simp only[go_sem,d]
 refine ways (λe=>?_) (λe=>?_)
 ·have c:a.tmod b<0:=by simpa using e
  simp only[go_sem]
  (first | refine zc ?_ | refine ze ?_ (by rfl))<;>(simp only[go_sem,ji,c]<;>try rfl)
 ·have c:¬ a.tmod b<0:=by simpa using e
  simp only[go_sem]
  (first | refine zc ?_ | refine ze ?_ (by rfl))<;>(simp only[go_sem,ji,c]<;>try rfl)
def Qq (n d:Int):Int × Int:=if d<=0 then (0,20) else if (ji n d).2≥wr (d - (ji n d).2) then (wr ((ji n d).1+1),0) else ((ji n d).1,0)
theorem c70 (n d:Int):qX Tryz.prog 190 [i64 n,i64 d] (QP (Qq n d)):=λh=>by
 refine zf Tryz.f190 [.tmp 4,.tmp 5] 24 rfl rfl rfl rfl rfl rfl (by decide) (⟨_,_,⟨rfl,rfl⟩,.refl⟩) λB=>?_
 simp only[go_sem]
 refine ways (λe=>?_) (λe=>?_)
 ·have b:d<=0:=by simpa using e
  simp only[go_sem]
  (first | refine zc ?_ | refine ze ?_ (by rfl))<;>(simp only[go_sem,Qq,b]<;>try rfl)
 ·have b:¬ d<=0:=by simpa using e
  simp only[go_sem]
  refine zd (c97 n d (by omega) _) ?_
  rintro _ _ ⟨rfl,rfl⟩
  simp only[go_sem]
  refine ways (λa=>?_) (λa=>?_)
  ·have a:(ji n d).2≥wr (d - (ji n d).2):=by simpa using a
   simp only[go_sem]
   (first | refine zc ?_ | refine ze ?_ (by rfl))<;>(simp only[go_sem,Qq,b,a]<;>try rfl)
  ·have a:¬ (ji n d).2≥wr (d - (ji n d).2):=by simpa using a
   simp only[go_sem]
   (first | refine zc ?_ | refine ze ?_ (by rfl))<;>(simp only[go_sem,Qq,b,a]<;>try rfl)
def qw (t u:Int):Int:=if u<1 then qo t 32054400 else min (wr ((Qq (qo t 32054400) u).1*min u 64108801)) 32054400
theorem c36 (t u:Int):qX Tryz.prog 199 [i64 t,i64 u] (i64 (qw t u)):=λh=>by
 refine zf Tryz.f199 [.tmp 4] 23 rfl rfl rfl rfl rfl rfl (by decide) (⟨_,_,⟨rfl,rfl⟩,.refl⟩) λB=>?_
 simp only[go_sem]
 refine zd (c69 _ _ _) ?_
 rintro _ _ ⟨rfl,rfl⟩
 simp only[go_sem]
 refine ways (λe=>?_) (λe=>?_)
 ·have a:u<1:=by simpa using e
  simp only[go_sem]
  (first | refine zc ?_ | refine ze ?_ (by rfl))<;>(simp only[go_sem,qw,a]<;>try rfl)
 ·have a:¬ u<1:=by simpa using e
  simp only[go_sem]
  refine zd (c70 _ _ _) ?_
  rintro _ _ ⟨rfl,rfl⟩
  simp only[go_sem]
  (first | refine zc ?_ | refine ze ?_ (by rfl))<;>(simp only[go_sem,qw,a,wU]<;>try rfl)
theorem Qra (e:Ev):qX Tryz.prog 201 [evV e] (i64 (Zq e.kind)):=λh=>by
 refine zf Tryz.f201 [.tmp 2] 11 rfl rfl rfl rfl rfl rfl (by decide) (⟨_,_,⟨rfl,rfl⟩,.refl⟩) λB=>?_
 simp only[go_sem]
 refine ways (λa=>?_) (λa=>?_)
 ·simp only[go_sem]
  have a:e.kind=3:=by simpa using a
  (first | refine zc ?_ | refine ze ?_ (by rfl))<;>(simp only[go_sem,Zq,a]<;>try rfl)
 ·simp only[go_sem]
  have a:¬ e.kind=3:=by simpa using a
  refine ways (λb=>?_) (λb=>?_)
  ·simp only[go_sem]
   have b:e.kind=4:=by simpa using b
   (first | refine zc ?_ | refine ze ?_ (by rfl))<;>(simp only[go_sem,Zq,a,b]<;>try rfl)
  ·simp only[go_sem]
   have b:¬ e.kind=4:=by simpa using b
   refine ways (λc=>?_) (λc=>?_)
   ·simp only[go_sem]
    have c:e.kind=5:=by simpa using c
    (first | refine zc ?_ | refine ze ?_ (by rfl))<;>(simp only[go_sem,Zq,a,b,c]<;>try rfl)
   ·simp only[go_sem]
    have c:¬ e.kind=5:=by simpa using c
    (first | refine zc ?_ | refine ze ?_ (by rfl))<;>(simp only[go_sem,Zq,a,b,c]<;>try rfl)
theorem c90 (h:List Ob) (i j:Nat) (s:Setup) (a:SA) (x y o:AV) (e:Ev) (b:h[i]? =some (.box 129 (xT s a (.ptr j 0) x y))) (c:h[j]? =some (.box 216 (WQ e o))):
  ACalls Tryz.prog 137 [.ptr i 0] h λr h'=>r=i64 (wr (e.at_+s.cap))/\h'=h:=by
 refine zf Tryz.f137 [.tmp 2] 17 rfl rfl rfl rfl rfl rfl (by decide) (⟨_,_,⟨rfl,rfl⟩,.refl⟩) λB=>?_
 simp only[go_sem]
 refine zp rfl [] 0 [(0,0,[]),(1,0,[]),(2,0,[]),(8,0,[]),(9,0,[]),(10,0,[]),(11,0,[]),(3,0,[]),(4,0,[]),(5,0,[]),(6,0,[]),(7,0,[]),(12,0,[]),(13,0,[]),(14,0,[])] rfl (by decide) (by decide) ?_
 simp only[go_sem,b,c]
 (first | refine zc ?_ | refine ze ?_ (by rfl))<;>(simp only[go_sem]<;>try rfl)
theorem c85 (F:List (Nat × List AV)) (h0 h:List Ob) (i:Nat) (s:Setup) (a:SA) (t:TellS) (e:Ev) (k:Int) (C:TellIn F h0 h i s a t) (D:t.flags.length<1099511627776):
  ACalls Tryz.prog 135 [.ptr i 0,evV e,i64 k] h λr h'=>r= .tup []/\TellIn F h0 h' i s a (xE t e k):=by
 obtain ⟨k1,k2,m,p,x,y,k3,k4,k5,k6⟩:=C
 have u:∀M,(h++M)[i]? =some (.box 129 (xT s a p x y)):=λM=>zb k3
 have v:∀M o,(h++M).set i o=h.set i o++M:=λM o=>zX k3
 have hex:=TellIn.ex (t:=t) ⟨k1,k2,m,p,x,y,k3,k4,k5,k6⟩ (xE t e k)
 have w:=k1.len
 rcases k5 with ⟨rfl,A⟩ | ⟨id,st,z,rfl,d⟩
 ·refine zf Tryz.f135 [] 19 rfl rfl rfl rfl rfl rfl (by decide) (hex) λB=>?_
  simp only[go_sem]
  refine zp rfl [.res] 1 [(0,0,[]),(1,0,[]),(2,0,[]),(3,0,[]),(5,0,[]),(7,0,[]),(4,0,[]),(6,0,[]),(8,0,[]),(9,0,[]),(10,0,[]),(11,0,[]),(12,0,[]),(13,0,[])] rfl (by decide) (by decide) ?_
  simp only[go_sem,u,v]
  refine ⟨.tup [],by simp only[go_sem],.inl ⟨rfl,(k1.set k2 rfl).app (zg rfl (zg rfl (zj rfl))),k2,(m.set_box k3 (by decide) _).app _,_,_,_,zb (zh k3),(k4.set_box k3 _).app _,.inr ⟨h.length+2,0,by omega,rfl,?_⟩,(k6.set_box k3 (by decide) _).app _⟩⟩
  rw[zl (by simp),xE,List.map_append,A]
  rfl
 ·have hid:∀M,(h++M)[id]? =some (.row 97 2 (t.flags.map xI) st):=λM=>zb d
  have j:∀M o,(h++M).set id o=h.set id o++M:=λM o=>zX d
  have c:id≠i:=λq=>by rw[q,k3] at d;cases d
  have f:∀M o,(h.set id o++M)[i]? =some (.box 129 (xT s a p x (.tl id st))):=λM o=>zb (by rw[List.getElem?_set_ne c];exact k3)
  have l:∀M o n,(h.set id o++M).set i n=(h.set id o).set i n++M:=λM o n=>zX (by rw[List.getElem?_set_ne c];exact k3)
  have g:((t.flags.map xI).length+1)*17<=140737488355328:=by rw[List.length_map];omega
  refine zf Tryz.f135 [] 19 rfl rfl rfl rfl rfl rfl (by decide) (hex) λB=>?_
  simp only[go_sem]
  refine zp rfl [.res] 1 [(0,0,[]),(1,0,[]),(2,0,[]),(3,0,[]),(5,0,[]),(7,0,[]),(4,0,[]),(6,0,[]),(8,0,[]),(9,0,[]),(10,0,[]),(11,0,[]),(12,0,[]),(13,0,[])] rfl (by decide) (by decide) ?_
  simp only[go_sem,u,v,hid,j,f,l,g]
  have b:∀o,(h.set id o)[i]? =some (.box 129 (xT s a p x (.tl id st))):=λo=>by rw[List.getElem?_set_ne c];exact k3
  refine ⟨.tup [],by simp only[go_sem],.inl ⟨rfl,((k1.set z rfl).set k2 rfl).app (zg rfl (zj rfl)),k2,((m.set_row d _).set_box (b _) (by decide) _).app _,_,_,_,zb (zh (b _)),((k4.set_row d (by decide) _).set_box (b _) _).app _,.inr ⟨id,st+1,z,rfl,zb ?_⟩,((k6.set_row d (by decide) _).set_box (b _) (by decide) _).app _⟩⟩
  rw[List.getElem?_set_ne (Ne.symm c),zh d,xE,List.map_append]
  rfl
theorem Qsa (F:List (Nat × List AV)) (h0 h:List Ob) (i D nl l nt m:Nat) (s:Setup) (a:SA) (O:AV) (n:List (List AV)) (t:TellS) (first last b to_:Int) (c next:Ev) (A:PartIn F h0 h i D nl l nt m s a O n first last b c t) (hl:t.segs.length<1099511627776):
  ACalls Tryz.prog 200 [i64 to_,evV next,.ptr D 0,.ptr nl 0,.ptr l 0,.ptr nt 0,.ptr m 0] h λr h'=>r= .tup []/\PartIn F h0 h' i D nl l nt m s a O n first last (toP first last to_) next (va t b (toP first last to_) c):=by
 have hex:=A.any (toP first last to_) next (va t b (toP first last to_) c)
 refine zf Tryz.f200 [] 37 rfl rfl rfl rfl rfl rfl (by decide) (hex) λB=>?_
 rw[qQ,qQ]
 refine wT (λT h'=>∃I,PartIn F h0 h' i D nl l nt m s a O n first last b c (va t b (toP first last to_) c)/\T 0=i64 (toP first last to_)/\T 4= .ptr l 0/\T 6= .ptr m 0/\T 8= .ptr I 0/\h'[I]? =some (.box 73 (evC next))) ?_ ?_
 ·have W:=A
  obtain ⟨n1,n2,n3,n4,n5,b1,b2,b3,b4,b5,⟨k1,k2,kf,p,x,y,k3,k4,k5,k6⟩,b6⟩:=W
  have β:=k1.len
  have G:∀M,(h++M)[D]? =some (.box 3 [i64 first]):=λM=>zb b1
  have g:∀M,(h++M)[nl]? =some (.box 3 [i64 last]):=λM=>zb b2
  have C:∀M,(h++M)[l]? =some (.box 3 [i64 b]):=λM=>zb b3
  have z:∀M,(h++M)[nt]? =some (.box 126 [.ptr i 0]):=λM=>zb b4
  have w:∀M,(h++M)[m]? =some (.box 73 (evC c)):=λM=>zb b5
  simp only[go_sem,G,g,C,z,w,wU,wV]
  refine ways (λe=>?_) (λe=>?_)
  ·have V:b<toP first last to_:=of_decide_eq_true e
   rw[va,if_pos V]
   have J:∀M,(h++M)[i]? =some (.box 129 (xT s a p x y)):=λM=>zb k3
   have H:∀M o,(h++M).set i o=h.set i o++M:=λM o=>zX k3
   rcases k4 with ⟨rfl,hn⟩ | ⟨id,st,q1,rfl,f⟩
   ·simp only[go_sem]
    refine zp rfl [.res] 1 [(6,0,[]),(9,0,[]),(11,0,[]),(0,0,[]),(1,0,[]),(2,0,[]),(3,0,[]),(4,0,[]),(5,0,[]),(7,0,[]),(10,0,[]),(12,0,[]),(8,0,[0,1,4,5,10,12]),(13,0,[]),(14,0,[]),(15,0,[0]),(16,0,[]),(17,0,[]),(18,0,[])] rfl (by decide) (by decide) ?_
    simp only[go_sem,G,g,C,z,w,J,H]
    refine zd (Qra c _) ?_
    rintro _ h1 ⟨rfl,g⟩
    subst g
    simp only[go_sem,G,g,C,z,w,J,H]
    refine ⟨h.length,A.tell ⟨(k1.set k2 rfl).app (zg rfl (zg rfl (zj rfl))),k2,(kf.set_box k3 (by decide) _).app _,_,_,_,zb (zh k3),.inr ⟨h.length+2,0,by omega,rfl,?_⟩,(k5.set_box k3 _).app _,(k6.set_box k3 (by decide) _).app _⟩,rfl,rfl,?_⟩
    ·rw[zl (by simp),List.map_append,hn]
     rfl
    ·rw[zm (by simp)]
     rfl
   ·have hid:∀M,(h++M)[id]? =some (.row 137 5 (t.segs.map j7) st):=λM=>zb f
    have R:∀M o,(h++M).set id o=h.set id o++M:=λM o=>zX f
    have E:id≠i:=λq=>by rw[q,k3] at f;cases f
    have d:∀o,(h.set id o)[i]? =some (.box 129 (xT s a p (.tl id st) y)):=λo=>by rw[List.getElem?_set_ne E];exact k3
    have K:∀M o,(h.set id o++M)[i]? =some (.box 129 (xT s a p (.tl id st) y)):=λM o=>zb (d o)
    have S:∀M o o2,(h.set id o++M).set i o2=(h.set id o).set i o2++M:=λM o o2=>zX (d o)
    have P:((t.segs.map j7).length+1)*41<=140737488355328:=by rw[List.length_map];omega
    have v:∀ {j u:Nat} {cs:List AV},h[j]? =some (.box u cs)->∀o M,(h.set id o++M)[j]? =some (.box u cs):=λhj o M=>zb (by
     rw[List.getElem?_set_ne (λq=>by rw[q,hj] at f;cases f)];exact hj)
    have Y:=v b1
    have Z:=v b2
    have N:=v b3
    have L:=v b4
    have Q:=v b5
    simp only[go_sem]
    refine zp rfl [.res] 1 [(6,0,[]),(9,0,[]),(11,0,[]),(0,0,[]),(1,0,[]),(2,0,[]),(3,0,[]),(4,0,[]),(5,0,[]),(7,0,[]),(10,0,[]),(12,0,[]),(8,0,[0,1,4,5,10,12]),(13,0,[]),(14,0,[]),(15,0,[0]),(16,0,[]),(17,0,[]),(18,0,[])] rfl (by decide) (by decide) ?_
    simp only[go_sem,G,g,C,z,w,J,H]
    refine zd (Qra c _) ?_
    rintro _ h1 ⟨rfl,g⟩
    subst g
    simp only[go_sem,G,g,C,z,w,J,H,hid,R,K,S,P,Y,Z,N,L,Q]
    refine ⟨h.length,A.tell2 f (by decide) ⟨((k1.set q1 rfl).set k2 rfl).app (zg rfl (zj rfl)),k2,((kf.set_row f _).set_box (d _) (by decide) _).app _,_,_,_,zb (zh (d _)),.inr ⟨id,st+1,q1,rfl,zb ?_⟩,((k5.set_row f (by decide) _).set_box (d _) _).app _,((k6.set_row f (by decide) _).set_box (d _) (by decide) _).app _⟩,rfl,rfl,?_⟩
    ·rw[List.getElem?_set_ne (Ne.symm E),zh f,List.map_append]
     rfl
    ·rw[zm (by simp)]
     rfl
  ·have U:¬ b<toP first last to_:=of_decide_eq_false e
   rw[va,if_neg U]
   simp only[go_sem]
   exact ⟨h.length,A.app (zj rfl),rfl,rfl,by simp⟩
 ·rintro T h' ⟨I,k,t0,t4,t6,t8,X⟩
  have g3:=k.b3
  have g5:∀o,(h'.set l o)[m]? =some (.box 73 (evC c)):=λo=>by rw[List.getElem?_set_ne (jQ k.b3 k.b5 (by decide))];exact k.b5
  have g8:∀o,(h'.set l o)[I]? =some (.box 73 (evC next)):=λo=>by rw[List.getElem?_set_ne (jQ k.b3 X (by decide))];exact X
  simp only[go_sem]
  refine zp rfl [] 0 [(0,0,[]),(1,0,[]),(2,0,[1]),(3,0,[])] rfl (by decide) (by decide) ?_
  simp only[go_sem,t0,t4,t6,t8,X,g3,g5,g8]
  exact ⟨.tup [],by simp only[go_sem],.inl ⟨rfl,k.next _ _⟩⟩
theorem c86 (F:List (Nat × List AV)) (h0 h:List Ob) (i:Nat) (s:Setup) (a:SA) (t:TellS) (e:Ev) (os:List Ev) (at_:Int) (N:TellIn F h0 h i s a t) (ho:t.open_=some (e,os)) (hl:t.segs.length+os.length+1<1099511627776):
  ACalls Tryz.prog 136 [.ptr i 0,i64 at_] h λr h'=>r= .tup []/\TellIn F h0 h' i s a ⟨none,(xF (qw e.at_ s.unit) (qw at_ s.unit) t e os).segs,t.flags⟩:=by
 have hex:=TellIn.ex N ⟨none,(xF (qw e.at_ s.unit) (qw at_ s.unit) t e os).segs,t.flags⟩
 have H:=N
 obtain ⟨k1,k2,kf,p,x,y,k3,k4,k5,k6⟩:=H
 rw[ho] at k6
 obtain ⟨j,o,j1,rfl,j3,U⟩:=k6
 have R:=k1.len
 have O:∀M,(h++M)[i]? =some (.box 129 (xT s a (.ptr j 0) x y)):=λM=>zb k3
 have I:∀M,(h++M)[j]? =some (.box 216 (WQ e o)):=λM=>zb j3
 refine zf Tryz.f136 [] 66 rfl rfl rfl rfl rfl rfl (by decide) (hex) λB=>?_
 simp only[go_sem]
 refine zp rfl [.res,.res] 2 [(14,0,[]),(0,0,[]),(1,0,[]),(2,0,[]),(3,0,[]),(4,0,[]),(5,0,[]),(6,0,[]),(7,0,[]),(8,0,[]),(9,0,[]),(10,0,[]),(11,0,[]),(12,0,[]),(15,0,[]),(16,0,[]),(17,0,[]),(18,0,[]),(19,0,[]),(13,0,[15,19]),(20,0,[]),(21,0,[]),(22,1,[]),(23,0,[]),(24,0,[])] rfl (by decide) (by decide) ?_
 simp only[go_sem,O,I]
 refine zd (c36 _ _ _) ?_
 rintro _ h1 ⟨rfl,E⟩
 subst E
 simp only[go_sem,O,I]
 refine zd (c36 _ _ _) ?_
 rintro _ h1 ⟨rfl,E⟩
 subst E
 have hr:∀M,zo (h++M) o=some (os.map evC):=λM=>(U.app M).rows.rows
 obtain ⟨first,b⟩:∃f,f=qw e.at_ s.unit:=⟨_,rfl⟩
 obtain ⟨last,g⟩:∃f,f=qw at_ s.unit:=⟨_,rfl⟩
 rw[<-b, <-g]
 simp only[go_sem,O,I,hr,List.length_map]
 have L:PartIn F h0 (h++[.box 126 [.ptr i 0],.box 3 [i64 first],.box 3 [i64 last],.box 3 [i64 first],.box 73 (evC e)]) i (h.length+1) (h.length+2) (h.length+3) (h.length+0) (h.length+4) s a o (os.map evC) first last first e t:=
  ⟨by omega,by omega,by omega,by omega,λz D=>by
   have:=kf z D
   have:=(List.getElem?_eq_some_iff.1 this).1
   omega,by rw[zl rfl];rfl,by rw[zl rfl];rfl,by rw[zl rfl];rfl,by rw[zl rfl];rfl,by rw[zl rfl];rfl,N.app (zg rfl (zg rfl (zg rfl (zg rfl (zj rfl))))),U.app _⟩
 refine zk (by decide) (λm T h'=>∃k:Nat,k<=os.length/\PartIn F h0 h' i (h.length+1) (h.length+2) (h.length+3) h.length (h.length+4) s a o (os.map evC) first last (j8 first last t e (os.take k)).1 (j8 first last t e (os.take k)).2.1 (j8 first last t e (os.take k)).2.2/\T 2= .ptr h.length 0/\T 5= .ptr (h.length+2) 0/\T 8= .fn (.func 200) [] [.ptr (h.length+1) 0,.ptr (h.length+2) 0,.ptr (h.length+3) 0,.ptr h.length 0,.ptr (h.length+4) 0]/\T 47=o/\T 48=i64 os.length/\T 49=i64 k/\m=os.length - k) os.length
  ⟨0,by omega,L,by simp only[go_sem],by simp only[go_sem],by simp only[go_sem],by simp only[go_sem],by simp only[go_sem],by (simp only[go_sem]<;>rfl),rfl⟩ ?_
 rintro m T h' ⟨k,hk,w,t2,t5,t8,A,u,c,rfl⟩
 simp only[go_sem,u,c]
 refine ways (λP=>?_) (λP=>?_)
 ·have d:=dlt P
  have V:SlOf h' o 11 (os.map evC):=w.b6.rows
  have J:=V.at (i:=k) (by simpa using d)
  have G:=V.rows
  have C:(os.map evC)[k]? =some (evC os[k]):=qD (List.getElem?_eq_getElem d)
  have Q:(k:Int)<os.length:=by omega
  simp only[go_sem,A,c,J,G,C,Q,List.length_map,Int.toNat_natCast,Int.natCast_nonneg,t8]
  have l:j8 first last t e (os.take (k+1))=vb first last (j8 first last t e (os.take k)) os[k]:=by
   rw[j8, <-List.take_append_getElem d,List.foldl_append]
   rfl
  have D:(j8 first last t e (os.take k)).2.2.segs.length<=t.segs.length+(os.take k).length:=QO (os.take k) (z:=(first,e,t))
  rw[List.length_take] at D
  refine zd (Qsa F h0 _ i _ _ _ _ _ s a o (os.map evC) _ first last _ os[k].at_ _ os[k] (w.app (zj rfl)) (by omega)) ?_
  rintro _ h3 ⟨rfl,q⟩
  simp only[go_sem,c]
  refine ⟨os.length - (k+1),by omega,k+1,by omega,?_,t2,t5,t8,A,u,zy (by omega) rfl,rfl⟩
  rw[l]
  exact q
 ·have γ:=jd P
  have K:k=os.length:=by omega
  subst K
  rw[List.take_length] at w
  have W:=w.b2
  have D:(j8 first last t e os).2.2.segs.length<=t.segs.length+os.length:=QO os (z:=(first,e,t))
  simp only[go_sem,t8,t5,W]
  refine zd (Qsa F h0 _ i _ _ _ _ _ s a o (os.map evC) _ first last _ last _ ⟨0,0,0,0,0,0,0,0,0,0,0⟩ w (by omega)) ?_
  rintro _ h3 ⟨rfl,q⟩
  have X:=q.b4
  obtain ⟨Y,S,mf,p',x',y',n,Z,m5,m6⟩:=q.t
  simp only[go_sem,t2,X,n]
  exact ⟨.tup [],by simp only[go_sem],.inl ⟨rfl,Y.set S rfl,S,mf.set_box n (by decide) _,_,_,_,zh n,Z.set_box n _,(by
   have:=m5.set_box n (o:= .box 129 (xT s a (.v (.pointer none)) x' y'))
   rw[Jk,WR] at this
   exact this),rfl⟩⟩
def vF (s:Setup) (t:TellS) (e:Ev) (os:List Ev) (at_:Int):TellS:=⟨none,(xF (qw e.at_ s.unit) (qw at_ s.unit) t e os).segs,t.flags⟩
def qF (s:Setup) (t:TellS) (at_:Int):TellS:=match t.open_ with
 | none=>t
 | some (e,os)=>if at_>wr (e.at_+s.cap) then vF s (xE t e 1) e os (wr (e.at_+s.cap)) else t
def Zr (s:Setup) (t:TellS) (e:Ev):TellS:=
 if e.kind=1 then (match (qF s t e.at_).open_ with
  | none=>⟨some (e,[]),(qF s t e.at_).segs,(qF s t e.at_).flags⟩
  | some (f,os)=>⟨some (e,[]),(vF s (xE (qF s t e.at_) f 2) f os e.at_).segs,(vF s (xE (qF s t e.at_) f 2) f os e.at_).flags⟩)
 else match (qF s t e.at_).open_ with
  | none=>xE (qF s t e.at_) e 3
  | some (f,os)=>if e.kind=2 then vF s (qF s t e.at_) f os e.at_ else ⟨some (f,os++[e]),(qF s t e.at_).segs,(qF s t e.at_).flags⟩
def szO:Option (Ev × List Ev)->Nat
 | none=>0
 | some (_,os)=>os.length+1
def szT (t:TellS):Nat:=t.segs.length+t.flags.length+szO t.open_
theorem Kt {first last:Int} {t:TellS} {e:Ev} {os:List Ev}:(xF first last t e os).segs.length<=t.segs.length+os.length+1:=by
 have c:=KX (t:=(j8 first last t e os).2.2) (b:=(j8 first last t e os).1) (to_:=toP first last last) (e:=(j8 first last t e os).2.1)
 have a:(j8 first last t e os).2.2.segs.length<=t.segs.length+os.length:=QO os (z:=(first,e,t))
 unfold xF
 omega
theorem Xz {t:TellS} {e:Ev} {k:Int}:szT (xE t e k)=szT t+1:=by simp[szT,xE];omega
theorem QQ {s:Setup} {t:TellS} {e:Ev} {os:List Ev} {at_:Int} (h:t.open_=some (e,os)):szT (vF s t e os at_)<=szT t:=by
 have:=Kt (first:=qw e.at_ s.unit) (last:=qw at_ s.unit) (t:=t) (e:=e) (os:=os)
 simp only[szT,vF,h,szO]
 omega
theorem Qr {s:Setup} {t:TellS} {at_:Int}:szT (qF s t at_)<=szT t+1:=by
 unfold qF
 split
 ·omega
 ·rename_i e os a
  split
  ·have:=QQ (s:=s) (t:=xE t e 1) (e:=e) (os:=os) (at_:=wr (e.at_+s.cap)) a
   rw[Xz] at this
   exact this
  ·omega
theorem kua {s:Setup} {t:TellS} {e:Ev}:szT (Zr s t e)<=szT t+3:=by
 have b:=Qr (s:=s) (t:=t) (at_:=e.at_)
 unfold Zr
 split
 ·split
  ·rename_i a
   simp only[szT,szO,a,List.length_nil] at b⊢
   omega
  ·rename_i f os a
   have:=QQ (s:=s) (t:=xE (qF s t e.at_) f 2) (e:=f) (os:=os) (at_:=e.at_) a
   rw[Xz] at this
   simp only[szT,szO,vF,List.length_nil] at this b⊢
   omega
 ·split
  ·rw[Xz];omega
  ·rename_i f os a
   split
   ·have:=QQ (s:=s) (t:=qF s t e.at_) (e:=f) (os:=os) (at_:=e.at_) a
    omega
   ·simp only[szT,szO,a,List.length_append,List.length_cons,List.length_nil] at b⊢
    omega
end Go.Proofs.YtfmldcilgbbimaaGreat.Ax
