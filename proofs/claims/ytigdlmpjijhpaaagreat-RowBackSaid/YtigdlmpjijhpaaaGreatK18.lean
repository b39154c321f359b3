import Derived.Test.YtigdlmpjijhpaaaGreatKA
import Derived.Test.YtigdlmpjijhpaaaGreatK17
set_option linter.all false
namespace Go.Proofs.YtigdlmpjijhpaaaGreat.Ax
open Go Go.Proofs
set_option maxRecDepth 100000
attribute [go_sem] Xwa XCa Xua Xva Xsa Vea Vfa Xya XIa XHa
theorem ZV{a b:Int}:(if b<a then b else a)=min a b:=by split<;>omega
theorem ZW{a b:Int}:(if b>a then b else a)=max a b:=by split<;>omega
def jw(n hi:Int):Int:=min (max n 0) hi
theorem c69(n hi:Int):xv Tryz.prog 172 [i64 n,i64 hi] (i64 (jw n hi)):=λh=>by
 refine zl Tryz.f172 [.tmp 4] 9 rfl rfl rfl rfl rfl rfl (by decide) (⟨_,_,⟨rfl,rfl⟩,.refl⟩) λB=>?_
 simp only[go_sem]
 refine zk ?_<;>(simp only[go_sem,jw,ZV,ZW]<;>try rfl)
def ofI(n a:Int):Int:=wr ((jw n 32054399).tdiv a)
theorem c51(n a:Int)(b:¬ a=0):xv Tryz.prog 140 [i64 n,i64 a] (i64 (ofI n a)):=λh=>by
 refine zl Tryz.f140 [.tmp 4] 9 rfl rfl rfl rfl rfl rfl (by decide) (⟨_,_,⟨rfl,rfl⟩,.refl⟩) λB=>?_
 simp only[go_sem]
 refine zi (c69 _ _ _) ?_
 rintro _ _ ⟨rfl,rfl⟩
 simp only[go_sem,b]
 refine zk ?_<;>(simp only[go_sem,ofI]<;>try rfl)
def Qi(n:Int):Int:=ofI n 604800
theorem c17(n:Int):xv Tryz.prog 63 [i64 n] (i64 (Qi n)):=λh=>by
 refine zl Tryz.f63 [.tmp 2] 5 rfl rfl rfl rfl rfl rfl (by decide) (⟨_,_,⟨rfl,rfl⟩,.refl⟩) λB=>?_
 simp only[go_sem]
 refine zi (c51 _ _ (by decide) _) ?_
 rintro _ _ ⟨rfl,rfl⟩
 simp only[go_sem]
 refine zk ?_<;>(simp only[go_sem,Qi]<;>try rfl)
def xL(a b:Int):Int × Int:=if a.tmod b<0 then(wr (wr (a.tdiv b) - 1),wr (a.tmod b+b)) else(wr (a.tdiv b),a.tmod b)
abbrev Kc(p:Int × Int):AV:= .tup [i64 p.1,i64 p.2]
theorem c97(a b:Int)(d:¬ b=0):xv Tryz.prog 209 [i64 a,i64 b] (Kc (xL a b)):=λh=>by
 refine zl Tryz.f209 [.tmp 4,.tmp 5] 21 rfl rfl rfl rfl rfl rfl (by decide) (⟨_,_,⟨rfl,rfl⟩,.refl⟩) λB=>?_
 simp only[go_sem]
 refine zV rfl [] 0 [(0,0,[]),(1,0,[]),(2,0,[]),(3,0,[]),(4,0,[]),(5,0,[]),(6,0,[]),(7,0,[])] rfl (by decide) (by decide) ?_
 simp only[go_sem,d]
 refine ways (λe=>?_) (λe=>?_)
 ·have c:a.tmod b<0:=by simpa using e
  simp only[go_sem]
  refine zk ?_<;>(simp only[go_sem,xL,c]<;>try rfl)
 ·have c:¬ a.tmod b<0:=by simpa using e
  simp only[go_sem]
  refine zk ?_<;>(simp only[go_sem,xL,c]<;>try rfl)
def XB(n d:Int):Int × Int:=if d<=0 then(0,20) else if(xL n d).2≥wr (d - (xL n d).2) then(wr ((xL n d).1+1),0) else((xL n d).1,0)
theorem c70(n d:Int):xv Tryz.prog 208 [i64 n,i64 d] (Kc (XB n d)):=λh=>by
 refine zl Tryz.f208 [.tmp 4,.tmp 5] 24 rfl rfl rfl rfl rfl rfl (by decide) (⟨_,_,⟨rfl,rfl⟩,.refl⟩) λB=>?_
 simp only[go_sem]
 refine ways (λe=>?_) (λe=>?_)
 ·have b:d<=0:=by simpa using e
  simp only[go_sem]
  refine zk ?_<;>(simp only[go_sem,XB,b]<;>try rfl)
 ·have b:¬ d<=0:=by simpa using e
  simp only[go_sem]
  refine zi (c97 n d (by omega) _) ?_
  rintro _ _ ⟨rfl,rfl⟩
  simp only[go_sem]
  refine ways (λa=>?_) (λa=>?_)
  ·have a:(xL n d).2≥wr (d - (xL n d).2):=by simpa using a
   simp only[go_sem]
   refine zk ?_<;>(simp only[go_sem,XB,b,a]<;>try rfl)
  ·have a:¬ (xL n d).2≥wr (d - (xL n d).2):=by simpa using a
   simp only[go_sem]
   refine zk ?_<;>(simp only[go_sem,XB,b,a]<;>try rfl)
def jH(t u:Int):Int:=if u<1 then jw t 32054400 else min (wr ((XB (jw t 32054400) u).1*min u 64108801)) 32054400
theorem c36(t u:Int):xv Tryz.prog 217 [i64 t,i64 u] (i64 (jH t u)):=λh=>by
 refine zl Tryz.f217 [.tmp 4] 23 rfl rfl rfl rfl rfl rfl (by decide) (⟨_,_,⟨rfl,rfl⟩,.refl⟩) λB=>?_
 simp only[go_sem]
 refine zi (c69 _ _ _) ?_
 rintro _ _ ⟨rfl,rfl⟩
 simp only[go_sem]
 refine ways (λe=>?_) (λe=>?_)
 ·have a:u<1:=by simpa using e
  simp only[go_sem]
  refine zk ?_<;>(simp only[go_sem,jH,a]<;>try rfl)
 ·have a:¬ u<1:=by simpa using e
  simp only[go_sem]
  refine zi (c70 _ _ _) ?_
  rintro _ _ ⟨rfl,rfl⟩
  simp only[go_sem]
  refine zk ?_<;>(simp only[go_sem,jH,a,ZV]<;>try rfl)
theorem V1a(e:Ev):xv Tryz.prog 219 [evV e] (i64 (Ju e.kind)):=λh=>by
 refine zl Tryz.f219 [.tmp 2] 11 rfl rfl rfl rfl rfl rfl (by decide) (⟨_,_,⟨rfl,rfl⟩,.refl⟩) λB=>?_
 simp only[go_sem]
 refine ways (λa=>?_) (λa=>?_)
 ·simp only[go_sem]
  have a:e.kind=3:=by simpa using a
  refine zk ?_<;>(simp only[go_sem,Ju,a]<;>try rfl)
 ·simp only[go_sem]
  have a:¬ e.kind=3:=by simpa using a
  refine ways (λb=>?_) (λb=>?_)
  ·simp only[go_sem]
   have b:e.kind=4:=by simpa using b
   refine zk ?_<;>(simp only[go_sem,Ju,a,b]<;>try rfl)
  ·simp only[go_sem]
   have b:¬ e.kind=4:=by simpa using b
   refine ways (λc=>?_) (λc=>?_)
   ·simp only[go_sem]
    have c:e.kind=5:=by simpa using c
    refine zk ?_<;>(simp only[go_sem,Ju,a,b,c]<;>try rfl)
   ·simp only[go_sem]
    have c:¬ e.kind=5:=by simpa using c
    refine zk ?_<;>(simp only[go_sem,Ju,a,b,c]<;>try rfl)
theorem c90(h:List Ob)(i j:Nat)(s:Setup)(a:SA)(x y o:AV)(e:Ev)(hi:h[i]? =some (.box 138 (wm s a (.ptr j 0) x y)))(b:h[j]? =some (.box 236 (q0a e o))):
  ACalls Tryz.prog 151 [.ptr i 0] h λr h'=>r=i64 (wr (e.at_+s.cap))/\h'=h:=by
 refine zl Tryz.f151 [.tmp 2] 17 rfl rfl rfl rfl rfl rfl (by decide) (⟨_,_,⟨rfl,rfl⟩,.refl⟩) λB=>?_
 simp only[go_sem]
 refine zV rfl [] 0 [(0,0,[]),(1,0,[]),(2,0,[]),(8,0,[]),(9,0,[]),(10,0,[]),(11,0,[]),(3,0,[]),(4,0,[]),(5,0,[]),(6,0,[]),(7,0,[]),(12,0,[]),(13,0,[]),(14,0,[])] rfl (by decide) (by decide) ?_
 simp only[go_sem,hi,b]
 refine zk ?_<;>(simp only[go_sem]<;>try rfl)
theorem c85(F:List (Nat × List AV))(h0 h:List Ob)(i:Nat)(s:Setup)(a:SA)(t:TellS)(e:Ev)(k:Int)(A:TellIn F h0 h i s a t)(D:t.flags.length<1099511627776):
  ACalls Tryz.prog 149 [.ptr i 0,evV e,i64 k] h λr h'=>r= .tup []/\TellIn F h0 h' i s a (vz t e k):=by
 obtain⟨k1,k2,g,p,x,y,k3,k4,k5,k6⟩:=A
 have z:∀M,(h++M)[i]? =some (.box 138 (wm s a p x y)):=λM=>zf k3
 have u:∀M o,(h++M).set i o=h.set i o++M:=λM o=>jc k3
 have hex:=TellIn.ex (t:=t) ⟨k1,k2,g,p,x,y,k3,k4,k5,k6⟩ (vz t e k)
 have w:=k1.len
 rcases k5 with⟨rfl,C⟩|⟨id,st,v,rfl,d⟩
 ·refine zl Tryz.f149 [] 19 rfl rfl rfl rfl rfl rfl (by decide) (hex) λB=>?_
  simp only[go_sem]
  refine zV rfl [.res] 1 [(0,0,[]),(1,0,[]),(2,0,[]),(3,0,[]),(5,0,[]),(7,0,[]),(4,0,[]),(6,0,[]),(8,0,[]),(9,0,[]),(10,0,[]),(11,0,[]),(12,0,[]),(13,0,[])] rfl (by decide) (by decide) ?_
  simp only[go_sem,z,u]
  refine⟨.tup [],by simp only[go_sem],.inl ⟨rfl,(k1.set k2 rfl).app (zp rfl (zp rfl (zF rfl))),k2,(g.set_box k3 (by decide) _).app _,_,_,_,zf (zq k3),(k4.set_box k3 _).app _,.inr ⟨h.length+2,0,by omega,rfl,?_⟩,(k6.set_box k3 (by decide) _).app _⟩⟩
  rw[zN (by simp),vz,zy,C]
  rfl
 ·have hid:∀M,(h++M)[id]? =some (.row 105 2 (t.flags.map jT) st):=λM=>zf d
  have n:∀M o,(h++M).set id o=h.set id o++M:=λM o=>jc d
  have b:id≠i:=λq=>by rw[q,k3] at d;cases d
  have l:∀M o,(h.set id o++M)[i]? =some (.box 138 (wm s a p x (.tl id st))):=λM o=>zf (by rw[zc b];exact k3)
  have m:∀M o j,(h.set id o++M).set i j=(h.set id o).set i j++M:=λM o j=>jc (by rw[zc b];exact k3)
  have f:((t.flags.map jT).length+1)*17<=140737488355328:=by rw[zb];omega
  refine zl Tryz.f149 [] 19 rfl rfl rfl rfl rfl rfl (by decide) (hex) λB=>?_
  simp only[go_sem]
  refine zV rfl [.res] 1 [(0,0,[]),(1,0,[]),(2,0,[]),(3,0,[]),(5,0,[]),(7,0,[]),(4,0,[]),(6,0,[]),(8,0,[]),(9,0,[]),(10,0,[]),(11,0,[]),(12,0,[]),(13,0,[])] rfl (by decide) (by decide) ?_
  simp only[go_sem,z,u,hid,n,l,m,f]
  have c:∀o,(h.set id o)[i]? =some (.box 138 (wm s a p x (.tl id st))):=λo=>by rw[zc b];exact k3
  refine⟨.tup [],by simp only[go_sem],.inl ⟨rfl,((k1.set v rfl).set k2 rfl).app (zp rfl (zF rfl)),k2,((g.set_row d _).set_box (c _) (by decide) _).app _,_,_,_,zf (zq (c _)),((k4.set_row d (by decide) _).set_box (c _) _).app _,.inr ⟨id,st+1,v,rfl,zf ?_⟩,((k6.set_row d (by decide) _).set_box (c _) (by decide) _).app _⟩⟩
  rw[zc (Ne.symm b),zq d,vz,zy]
  rfl
theorem V2a(F:List (Nat × List AV))(h0 h:List Ob)(i v nl l nt n:Nat)(s:Setup)(a:SA)(P:AV)(m:List (List AV))(t:TellS)(first last b to_:Int)(c next:Ev)(C:PartIn F h0 h i v nl l nt n s a P m first last b c t)(hl:t.segs.length<1099511627776):
  ACalls Tryz.prog 218 [i64 to_,evV next,.ptr v 0,.ptr nl 0,.ptr l 0,.ptr nt 0,.ptr n 0] h λr h'=>r= .tup []/\PartIn F h0 h' i v nl l nt n s a P m first last (toP first last to_) next (w9 t b (toP first last to_) c):=by
 have hex:=C.any (toP first last to_) next (w9 t b (toP first last to_) c)
 refine zl Tryz.f218 [] 37 rfl rfl rfl rfl rfl rfl (by decide) (hex) λB=>?_
 rw[xk,xk]
 refine ZQ (λT h'=>∃I,PartIn F h0 h' i v nl l nt n s a P m first last b c (w9 t b (toP first last to_) c)/\T 0=i64 (toP first last to_)/\T 4= .ptr l 0/\T 6= .ptr n 0/\T 8= .ptr I 0/\h'[I]? =some (.box 75 (evC next))) ?_ ?_
 ·have X:=C
  obtain⟨n1,n2,n3,n4,n5,b1,b2,b3,b4,b5,⟨k1,k2,kf,p,x,y,k3,k4,k5,k6⟩,b6⟩:=X
  have β:=k1.len
  have z:∀M,(h++M)[v]? =some (.box 3 [i64 first]):=λM=>zf b1
  have g:∀M,(h++M)[nl]? =some (.box 3 [i64 last]):=λM=>zf b2
  have D:∀M,(h++M)[l]? =some (.box 3 [i64 b]):=λM=>zf b3
  have A:∀M,(h++M)[nt]? =some (.box 135 [.ptr i 0]):=λM=>zf b4
  have w:∀M,(h++M)[n]? =some (.box 75 (evC c)):=λM=>zf b5
  simp only[go_sem,z,g,D,A,w,ZV,ZW]
  refine ways (λe=>?_) (λe=>?_)
  ·have V:b<toP first last to_:=of_decide_eq_true e
   rw[w9,if_pos V]
   have J:∀M,(h++M)[i]? =some (.box 138 (wm s a p x y)):=λM=>zf k3
   have H:∀M o,(h++M).set i o=h.set i o++M:=λM o=>jc k3
   rcases k4 with⟨rfl,hn⟩|⟨id,st,q1,rfl,f⟩
   ·simp only[go_sem]
    refine zV rfl [.res] 1 [(6,0,[]),(9,0,[]),(11,0,[]),(0,0,[]),(1,0,[]),(2,0,[]),(3,0,[]),(4,0,[]),(5,0,[]),(7,0,[]),(10,0,[]),(12,0,[]),(8,0,[0,1,4,5,10,12]),(13,0,[]),(14,0,[]),(15,0,[0]),(16,0,[]),(17,0,[]),(18,0,[])] rfl (by decide) (by decide) ?_
    simp only[go_sem,z,g,D,A,w,J,H]
    refine zi (V1a c _) ?_
    rintro _ h1 ⟨rfl,g⟩
    subst g
    simp only[go_sem,z,g,D,A,w,J,H]
    refine⟨h.length,C.tell ⟨(k1.set k2 rfl).app (zp rfl (zp rfl (zF rfl))),k2,(kf.set_box k3 (by decide) _).app _,_,_,_,zf (zq k3),.inr ⟨h.length+2,0,by omega,rfl,?_⟩,(k5.set_box k3 _).app _,(k6.set_box k3 (by decide) _).app _⟩,rfl,rfl,?_⟩
    ·rw[zN (by simp),zy,hn]
     rfl
    ·rw[zM (by simp)]
     rfl
   ·have hid:∀M,(h++M)[id]? =some (.row 146 5 (t.segs.map vb) st):=λM=>zf f
    have α:∀M o,(h++M).set id o=h.set id o++M:=λM o=>jc f
    have E:id≠i:=λq=>by rw[q,k3] at f;cases f
    have d:∀o,(h.set id o)[i]? =some (.box 138 (wm s a p (.tl id st) y)):=λo=>by rw[zc E];exact k3
    have U:∀M o,(h.set id o++M)[i]? =some (.box 138 (wm s a p (.tl id st) y)):=λM o=>zf (d o)
    have R:∀M o N,(h.set id o++M).set i N=(h.set id o).set i N++M:=λM o N=>jc (d o)
    have K:((t.segs.map vb).length+1)*41<=140737488355328:=by rw[zb];omega
    have G:∀ {j u:Nat} {cs:List AV},h[j]? =some (.box u cs)->∀o M,(h.set id o++M)[j]? =some (.box u cs):=λhj o M=>zf (by
     rw[zc (λq=>by rw[q,hj] at f;cases f)];exact hj)
    have Y:=G b1
    have S:=G b2
    have O:=G b3
    have W:=G b4
    have Z:=G b5
    simp only[go_sem]
    refine zV rfl [.res] 1 [(6,0,[]),(9,0,[]),(11,0,[]),(0,0,[]),(1,0,[]),(2,0,[]),(3,0,[]),(4,0,[]),(5,0,[]),(7,0,[]),(10,0,[]),(12,0,[]),(8,0,[0,1,4,5,10,12]),(13,0,[]),(14,0,[]),(15,0,[0]),(16,0,[]),(17,0,[]),(18,0,[])] rfl (by decide) (by decide) ?_
    simp only[go_sem,z,g,D,A,w,J,H]
    refine zi (V1a c _) ?_
    rintro _ h1 ⟨rfl,g⟩
    subst g
    simp only[go_sem,z,g,D,A,w,J,H,hid,α,U,R,K,Y,S,O,W,Z]
    refine⟨h.length,C.tell2 f (by decide) ⟨((k1.set q1 rfl).set k2 rfl).app (zp rfl (zF rfl)),k2,((kf.set_row f _).set_box (d _) (by decide) _).app _,_,_,_,zf (zq (d _)),.inr ⟨id,st+1,q1,rfl,zf ?_⟩,((k5.set_row f (by decide) _).set_box (d _) _).app _,((k6.set_row f (by decide) _).set_box (d _) (by decide) _).app _⟩,rfl,rfl,?_⟩
    ·rw[zc (Ne.symm E),zq f,zy]
     rfl
    ·rw[zM (by simp)]
     rfl
  ·have L:¬ b<toP first last to_:=of_decide_eq_false e
   rw[w9,if_neg L]
   simp only[go_sem]
   exact⟨h.length,C.app (zF rfl),rfl,rfl,by simp⟩
 ·rintro T h' ⟨I,k,t0,t4,t6,t8,Q⟩
  have g3:=k.b3
  have g5:∀o,(h'.set l o)[n]? =some (.box 75 (evC c)):=λo=>by rw[zc (kL k.b3 k.b5 (by decide))];exact k.b5
  have g8:∀o,(h'.set l o)[I]? =some (.box 75 (evC next)):=λo=>by rw[zc (kL k.b3 Q (by decide))];exact Q
  simp only[go_sem]
  refine zV rfl [] 0 [(0,0,[]),(1,0,[]),(2,0,[1]),(3,0,[])] rfl (by decide) (by decide) ?_
  simp only[go_sem,t0,t4,t6,t8,Q,g3,g5,g8]
  exact⟨.tup [],by simp only[go_sem],.inl ⟨rfl,k.next _ _⟩⟩
theorem c86(F:List (Nat × List AV))(h0 h:List Ob)(i:Nat)(s:Setup)(a:SA)(t:TellS)(e:Ev)(os:List Ev)(at_:Int)(O:TellIn F h0 h i s a t)(ho:t.open_=some (e,os))(hl:t.segs.length+os.length+1<1099511627776):
  ACalls Tryz.prog 150 [.ptr i 0,i64 at_] h λr h'=>r= .tup []/\TellIn F h0 h' i s a ⟨none,(vP (jH e.at_ s.unit) (jH at_ s.unit) t e os).segs,t.flags⟩:=by
 have hex:=TellIn.ex O ⟨none,(vP (jH e.at_ s.unit) (jH at_ s.unit) t e os).segs,t.flags⟩
 have Q:=O
 obtain⟨k1,k2,Y,p,x,y,k3,k4,k5,k6⟩:=Q
 rw[ho] at k6
 obtain⟨j,o,j1,rfl,j3,U⟩:=k6
 have R:=k1.len
 have K:∀M,(h++M)[i]? =some (.box 138 (wm s a (.ptr j 0) x y)):=λM=>zf k3
 have J:∀M,(h++M)[j]? =some (.box 236 (q0a e o)):=λM=>zf j3
 refine zl Tryz.f150 [] 66 rfl rfl rfl rfl rfl rfl (by decide) (hex) λB=>?_
 simp only[go_sem]
 refine zV rfl [.res,.res] 2 [(14,0,[]),(0,0,[]),(1,0,[]),(2,0,[]),(3,0,[]),(4,0,[]),(5,0,[]),(6,0,[]),(7,0,[]),(8,0,[]),(9,0,[]),(10,0,[]),(11,0,[]),(12,0,[]),(15,0,[]),(16,0,[]),(17,0,[]),(18,0,[]),(19,0,[]),(13,0,[15,19]),(20,0,[]),(21,0,[]),(22,1,[]),(23,0,[]),(24,0,[])] rfl (by decide) (by decide) ?_
 simp only[go_sem,K,J]
 refine zi (c36 _ _ _) ?_
 rintro _ h1 ⟨rfl,G⟩
 subst G
 simp only[go_sem,K,J]
 refine zi (c36 _ _ _) ?_
 rintro _ h1 ⟨rfl,G⟩
 subst G
 have hr:∀M,zZ (h++M) o=some (os.map evC):=λM=>(U.app M).rows.rows
 obtain⟨first,b⟩:∃f,f=jH e.at_ s.unit:=⟨_,rfl⟩
 obtain⟨last,g⟩:∃f,f=jH at_ s.unit:=⟨_,rfl⟩
 rw[<-b, <-g]
 simp only[go_sem,K,J,hr,zb]
 have N:PartIn F h0 (h++[.box 135 [.ptr i 0],.box 3 [i64 first],.box 3 [i64 last],.box 3 [i64 first],.box 75 (evC e)]) i (h.length+1) (h.length+2) (h.length+3) (h.length+0) (h.length+4) s a o (os.map evC) first last first e t:=
  ⟨by omega,by omega,by omega,by omega,λz D=>by
   have:=Y z D
   have:=(zd.1 this).1
   omega,by rw[zN rfl];rfl,by rw[zN rfl];rfl,by rw[zN rfl];rfl,by rw[zN rfl];rfl,by rw[zN rfl];rfl,O.app (zp rfl (zp rfl (zp rfl (zp rfl (zF rfl))))),U.app _⟩
 refine zO (by decide) (λm T h'=>∃k:Nat,k<=os.length/\PartIn F h0 h' i (h.length+1) (h.length+2) (h.length+3) h.length (h.length+4) s a o (os.map evC) first last (vc first last t e (os.take k)).1 (vc first last t e (os.take k)).2.1 (vc first last t e (os.take k)).2.2/\T 2= .ptr h.length 0/\T 5= .ptr (h.length+2) 0/\T 8= .fn (.func 218) [] [.ptr (h.length+1) 0,.ptr (h.length+2) 0,.ptr (h.length+3) 0,.ptr h.length 0,.ptr (h.length+4) 0]/\T 47=o/\T 48=i64 os.length/\T 49=i64 k/\m=os.length - k) os.length
  ⟨0,by omega,N,by simp only[go_sem],by simp only[go_sem],by simp only[go_sem],by simp only[go_sem],by simp only[go_sem],by(simp only[go_sem]<;>rfl),rfl⟩ ?_
 rintro m T h' ⟨k,hk,C,t2,t5,t8,w,A,c,rfl⟩
 simp only[go_sem,A,c]
 refine ways (λH=>?_) (λH=>?_)
 ·have l:=dlt H
  have S:SlOf h' o 11 (os.map evC):=C.b6.rows
  have L:=S.at (i:=k) (by simpa using l)
  have I:=S.rows
  have u:(os.map evC)[k]? =some (evC os[k]):=jR (zh l)
  have E:(k:Int)<os.length:=by omega
  simp only[go_sem,w,c,L,I,u,E,zb,Int.toNat_natCast,zg,t8]
  have d:vc first last t e (os.take (k+1))=yc first last (vc first last t e (os.take k)) os[k]:=by
   rw[vc, <-zD l,jb]
   rfl
  have D:(vc first last t e (os.take k)).2.2.segs.length<=t.segs.length+(os.take k).length:=Kb (os.take k) (z:=(first,e,t))
  rw[zX] at D
  refine zi (V2a F h0 _ i _ _ _ _ _ s a o (os.map evC) _ first last _ os[k].at_ _ os[k] (C.app (zF rfl)) (by omega)) ?_
  rintro _ X ⟨rfl,q⟩
  simp only[go_sem,c]
  refine⟨os.length - (k+1),by omega,k+1,by omega,?_,t2,t5,t8,w,A,qc (by omega) rfl,rfl⟩
  rw[d]
  exact q
 ·have W:=xc H
  have P:k=os.length:=by omega
  subst P
  rw[zY] at C
  have Z:=C.b2
  have D:(vc first last t e os).2.2.segs.length<=t.segs.length+os.length:=Kb os (z:=(first,e,t))
  simp only[go_sem,t8,t5,Z]
  refine zi (V2a F h0 _ i _ _ _ _ _ s a o (os.map evC) _ first last _ last _ ⟨0,0,0,0,0,0,0,0,0,0,0⟩ C (by omega)) ?_
  rintro _ X ⟨rfl,q⟩
  have q4:=q.b4
  obtain⟨m1,V,mf,p',x',y',n,m4,m5,m6⟩:=q.t
  simp only[go_sem,t2,q4,n]
  exact⟨.tup [],by simp only[go_sem],.inl ⟨rfl,m1.set V rfl,V,mf.set_box n (by decide) _,_,_,_,zq n,m4.set_box n _,(by
   have:=m5.set_box n (o:= .box 138 (wm s a (.v (.pointer none)) x' y'))
   rw[KF,q1a] at this
   exact this),rfl⟩⟩
def yI(s:Setup)(t:TellS)(e:Ev)(os:List Ev)(at_:Int):TellS:=⟨none,(vP (jH e.at_ s.unit) (jH at_ s.unit) t e os).segs,t.flags⟩
def jE(s:Setup)(t:TellS)(at_:Int):TellS:=match t.open_ with
 | none=>t
 | some (e,os)=>if at_>wr (e.at_+s.cap) then yI s (vz t e 1) e os (wr (e.at_+s.cap)) else t
def wP(s:Setup)(t:TellS)(e:Ev):TellS:=
 if e.kind=1 then(match (jE s t e.at_).open_ with
  | none=>⟨some (e,[]),(jE s t e.at_).segs,(jE s t e.at_).flags⟩
  | some (f,os)=>⟨some (e,[]),(yI s (vz (jE s t e.at_) f 2) f os e.at_).segs,(yI s (vz (jE s t e.at_) f 2) f os e.at_).flags⟩)
 else match (jE s t e.at_).open_ with
  | none=>vz (jE s t e.at_) e 3
  | some (f,os)=>if e.kind=2 then yI s (jE s t e.at_) f os e.at_ else⟨some (f,os++[e]),(jE s t e.at_).segs,(jE s t e.at_).flags⟩
def szO:Option (Ev × List Ev)->Nat
 | none=>0
 | some (_,os)=>os.length+1
def szT(t:TellS):Nat:=t.segs.length+t.flags.length+szO t.open_
theorem Yc{first last:Int}{t:TellS}{e:Ev}{os:List Ev}:(vP first last t e os).segs.length<=t.segs.length+os.length+1:=by
 have c:=YM (t:=(vc first last t e os).2.2) (b:=(vc first last t e os).1) (to_:=toP first last last) (e:=(vc first last t e os).2.1)
 have a:(vc first last t e os).2.2.segs.length<=t.segs.length+os.length:=Kb os (z:=(first,e,t))
 unfold vP
 omega
theorem V7{t:TellS}{e:Ev}{k:Int}:szT (vz t e k)=szT t+1:=by simp[szT,vz];omega
theorem Kd{s:Setup}{t:TellS}{e:Ev}{os:List Ev}{at_:Int}(h:t.open_=some (e,os)):szT (yI s t e os at_)<=szT t:=by
 have:=Yc (first:=jH e.at_ s.unit) (last:=jH at_ s.unit) (t:=t) (e:=e) (os:=os)
 simp only[szT,yI,h,szO]
 omega
theorem XC{s:Setup}{t:TellS}{at_:Int}:szT (jE s t at_)<=szT t+1:=by
 unfold jE
 split
 ·omega
 ·rename_i e os a
  split
  ·have:=Kd (s:=s) (t:=vz t e 1) (e:=e) (os:=os) (at_:=wr (e.at_+s.cap)) a
   rw[V7] at this
   exact this
  ·omega
theorem Zga{s:Setup}{t:TellS}{e:Ev}:szT (wP s t e)<=szT t+3:=by
 have b:=XC (s:=s) (t:=t) (at_:=e.at_)
 unfold wP
 split
 ·split
  ·rename_i a
   simp only[szT,szO,a,List.length_nil] at b⊢
   omega
  ·rename_i f os a
   have:=Kd (s:=s) (t:=vz (jE s t e.at_) f 2) (e:=f) (os:=os) (at_:=e.at_) a
   rw[V7] at this
   simp only[szT,szO,yI,List.length_nil] at this b⊢
   omega
 ·split
  ·rw[V7];omega
  ·rename_i f os a
   split
   ·have:=Kd (s:=s) (t:=jE s t e.at_) (e:=f) (os:=os) (at_:=e.at_) a
    omega
   ·simp only[szT,szO,a,ze,List.length_cons,List.length_nil] at b⊢
    omega
