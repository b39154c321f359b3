import Derived.Test.YtigdlmpjijhpaaaGreatBA
import Derived.Test.YtigdlmpjijhpaaaGreatB17
set_option linter.all false
namespace Go.Proofs.YtigdlmpjijhpaaaGreat.Ax
open Go Go.Proofs
set_option maxRecDepth 100000
attribute [go_sem] WLa WRa WJa WKa WHa zOb zPb WNa WXa WWa
theorem QL{a b:Int}:(if b<a then b else a)=min a b:=by split<;>omega
theorem QM{a b:Int}:(if b>a then b else a)=max a b:=by split<;>omega
def jl(n hi:Int):Int:=min (max n 0) hi
theorem c69(n hi:Int):xw Tryz.prog 172 [i64 n,i64 hi] (i64 (jl n hi)):=λh=>by
 refine zj Tryz.f172 [.tmp 4] 9 rfl rfl rfl rfl rfl rfl (by decide) (⟨_,_,⟨rfl,rfl⟩,.refl⟩) λB=>?_
 simp only[go_sem]
 refine zm ?_<;>(simp only[go_sem,jl,QL,QM]<;>try rfl)
def ofI(n a:Int):Int:=wr ((jl n 32054399).tdiv a)
theorem c51(n a:Int)(b:¬ a=0):xw Tryz.prog 140 [i64 n,i64 a] (i64 (ofI n a)):=λh=>by
 refine zj Tryz.f140 [.tmp 4] 9 rfl rfl rfl rfl rfl rfl (by decide) (⟨_,_,⟨rfl,rfl⟩,.refl⟩) λB=>?_
 simp only[go_sem]
 refine zg (c69 _ _ _) ?_
 rintro _ _ ⟨rfl,rfl⟩
 simp only[go_sem,b]
 refine zm ?_<;>(simp only[go_sem,ofI]<;>try rfl)
def yJ(n:Int):Int:=ofI n 604800
theorem c17(n:Int):xw Tryz.prog 63 [i64 n] (i64 (yJ n)):=λh=>by
 refine zj Tryz.f63 [.tmp 2] 5 rfl rfl rfl rfl rfl rfl (by decide) (⟨_,_,⟨rfl,rfl⟩,.refl⟩) λB=>?_
 simp only[go_sem]
 refine zg (c51 _ _ (by decide) _) ?_
 rintro _ _ ⟨rfl,rfl⟩
 simp only[go_sem]
 refine zm ?_<;>(simp only[go_sem,yJ]<;>try rfl)
def kw(a b:Int):Int × Int:=if a.tmod b<0 then(wr (wr (a.tdiv b) - 1),wr (a.tmod b+b)) else(wr (a.tdiv b),a.tmod b)
abbrev Xv(p:Int × Int):AV:= .tup [i64 p.1,i64 p.2]
theorem c97(a b:Int)(d:¬ b=0):xw Tryz.prog 209 [i64 a,i64 b] (Xv (kw a b)):=λh=>by
 refine zj Tryz.f209 [.tmp 4,.tmp 5] 21 rfl rfl rfl rfl rfl rfl (by decide) (⟨_,_,⟨rfl,rfl⟩,.refl⟩) λB=>?_
 simp only[go_sem]
 refine zV rfl [] 0 [(0,0,[]),(1,0,[]),(2,0,[]),(3,0,[]),(4,0,[]),(5,0,[]),(6,0,[]),(7,0,[])] rfl (by decide) (by decide) ?_
 simp only[go_sem,d]
 refine ways (λe=>?_) (λe=>?_)
 ·have c:a.tmod b<0:=by simpa using e
  simp only[go_sem]
  refine zm ?_<;>(simp only[go_sem,kw,c]<;>try rfl)
 ·have c:¬ a.tmod b<0:=by simpa using e
  simp only[go_sem]
  refine zm ?_<;>(simp only[go_sem,kw,c]<;>try rfl)
def KL(n d:Int):Int × Int:=if d<=0 then(0,20) else if(kw n d).2≥wr (d - (kw n d).2) then(wr ((kw n d).1+1),0) else((kw n d).1,0)
theorem c70(n d:Int):xw Tryz.prog 208 [i64 n,i64 d] (Xv (KL n d)):=λh=>by
 refine zj Tryz.f208 [.tmp 4,.tmp 5] 24 rfl rfl rfl rfl rfl rfl (by decide) (⟨_,_,⟨rfl,rfl⟩,.refl⟩) λB=>?_
 simp only[go_sem]
 refine ways (λe=>?_) (λe=>?_)
 ·have b:d<=0:=by simpa using e
  simp only[go_sem]
  refine zm ?_<;>(simp only[go_sem,KL,b]<;>try rfl)
 ·have b:¬ d<=0:=by simpa using e
  simp only[go_sem]
  refine zg (c97 n d (by omega) _) ?_
  rintro _ _ ⟨rfl,rfl⟩
  simp only[go_sem]
  refine ways (λa=>?_) (λa=>?_)
  ·have a:(kw n d).2≥wr (d - (kw n d).2):=by simpa using a
   simp only[go_sem]
   refine zm ?_<;>(simp only[go_sem,KL,b,a]<;>try rfl)
  ·have a:¬ (kw n d).2≥wr (d - (kw n d).2):=by simpa using a
   simp only[go_sem]
   refine zm ?_<;>(simp only[go_sem,KL,b,a]<;>try rfl)
def jS(t u:Int):Int:=if u<1 then jl t 32054400 else min (wr ((KL (jl t 32054400) u).1*min u 64108801)) 32054400
theorem c36(t u:Int):xw Tryz.prog 217 [i64 t,i64 u] (i64 (jS t u)):=λh=>by
 refine zj Tryz.f217 [.tmp 4] 23 rfl rfl rfl rfl rfl rfl (by decide) (⟨_,_,⟨rfl,rfl⟩,.refl⟩) λB=>?_
 simp only[go_sem]
 refine zg (c69 _ _ _) ?_
 rintro _ _ ⟨rfl,rfl⟩
 simp only[go_sem]
 refine ways (λe=>?_) (λe=>?_)
 ·have a:u<1:=by simpa using e
  simp only[go_sem]
  refine zm ?_<;>(simp only[go_sem,jS,a]<;>try rfl)
 ·have a:¬ u<1:=by simpa using e
  simp only[go_sem]
  refine zg (c70 _ _ _) ?_
  rintro _ _ ⟨rfl,rfl⟩
  simp only[go_sem]
  refine zm ?_<;>(simp only[go_sem,jS,a,QL]<;>try rfl)
theorem qEb(e:Ev):xw Tryz.prog 219 [evV e] (i64 (XD e.kind)):=λh=>by
 refine zj Tryz.f219 [.tmp 2] 11 rfl rfl rfl rfl rfl rfl (by decide) (⟨_,_,⟨rfl,rfl⟩,.refl⟩) λB=>?_
 simp only[go_sem]
 refine ways (λa=>?_) (λa=>?_)
 ·simp only[go_sem]
  have a:e.kind=3:=by simpa using a
  refine zm ?_<;>(simp only[go_sem,XD,a]<;>try rfl)
 ·simp only[go_sem]
  have a:¬ e.kind=3:=by simpa using a
  refine ways (λb=>?_) (λb=>?_)
  ·simp only[go_sem]
   have b:e.kind=4:=by simpa using b
   refine zm ?_<;>(simp only[go_sem,XD,a,b]<;>try rfl)
  ·simp only[go_sem]
   have b:¬ e.kind=4:=by simpa using b
   refine ways (λc=>?_) (λc=>?_)
   ·simp only[go_sem]
    have c:e.kind=5:=by simpa using c
    refine zm ?_<;>(simp only[go_sem,XD,a,b,c]<;>try rfl)
   ·simp only[go_sem]
    have c:¬ e.kind=5:=by simpa using c
    refine zm ?_<;>(simp only[go_sem,XD,a,b,c]<;>try rfl)
theorem c90(h:List Ob)(i j:Nat)(s:Setup)(a:SA)(x y o:AV)(e:Ev)(hi:h[i]? =some (.box 138 (wX s a (.ptr j 0) x y)))(b:h[j]? =some (.box 236 (x0a e o))):
  ACalls Tryz.prog 151 [.ptr i 0] h λr h'=>r=i64 (wr (e.at_+s.cap))/\h'=h:=by
 refine zj Tryz.f151 [.tmp 2] 17 rfl rfl rfl rfl rfl rfl (by decide) (⟨_,_,⟨rfl,rfl⟩,.refl⟩) λB=>?_
 simp only[go_sem]
 refine zV rfl [] 0 [(0,0,[]),(1,0,[]),(2,0,[]),(8,0,[]),(9,0,[]),(10,0,[]),(11,0,[]),(3,0,[]),(4,0,[]),(5,0,[]),(6,0,[]),(7,0,[]),(12,0,[]),(13,0,[]),(14,0,[])] rfl (by decide) (by decide) ?_
 simp only[go_sem,hi,b]
 refine zm ?_<;>(simp only[go_sem]<;>try rfl)
theorem c85(F:List (Nat × List AV))(h0 h:List Ob)(i:Nat)(s:Setup)(a:SA)(t:TellS)(e:Ev)(k:Int)(A:TellIn F h0 h i s a t)(D:t.flags.length<1099511627776):
  ACalls Tryz.prog 149 [.ptr i 0,evV e,i64 k] h λr h'=>r= .tup []/\TellIn F h0 h' i s a (wh t e k):=by
 obtain⟨k1,k2,j,p,x,y,k3,k4,k5,k6⟩:=A
 have v:∀M,(h++M)[i]? =some (.box 138 (wX s a p x y)):=λM=>zf k3
 have z:∀M o,(h++M).set i o=h.set i o++M:=λM o=>jh k3
 have hex:=TellIn.ex (t:=t) ⟨k1,k2,j,p,x,y,k3,k4,k5,k6⟩ (wh t e k)
 have u:=k1.len
 rcases k5 with⟨rfl,C⟩|⟨id,st,w,rfl,d⟩
 ·refine zj Tryz.f149 [] 19 rfl rfl rfl rfl rfl rfl (by decide) (hex) λB=>?_
  simp only[go_sem]
  refine zV rfl [.res] 1 [(0,0,[]),(1,0,[]),(2,0,[]),(3,0,[]),(5,0,[]),(7,0,[]),(4,0,[]),(6,0,[]),(8,0,[]),(9,0,[]),(10,0,[]),(11,0,[]),(12,0,[]),(13,0,[])] rfl (by decide) (by decide) ?_
  simp only[go_sem,v,z]
  refine⟨.tup [],by simp only[go_sem],.inl ⟨rfl,(k1.set k2 rfl).app (zr rfl (zr rfl (zG rfl))),k2,(j.set_box k3 (by decide) _).app _,_,_,_,zf (zq k3),(k4.set_box k3 _).app _,.inr ⟨h.length+2,0,by omega,rfl,?_⟩,(k6.set_box k3 (by decide) _).app _⟩⟩
  rw[zK (by simp),wh,zy,C]
  rfl
 ·have hid:∀M,(h++M)[id]? =some (.row 105 2 (t.flags.map xy) st):=λM=>zf d
  have m:∀M o,(h++M).set id o=h.set id o++M:=λM o=>jh d
  have b:id≠i:=λq=>by rw[q,k3] at d;cases d
  have n:∀M o,(h.set id o++M)[i]? =some (.box 138 (wX s a p x (.tl id st))):=λM o=>zf (by rw[zc b];exact k3)
  have f:∀M o g,(h.set id o++M).set i g=(h.set id o).set i g++M:=λM o g=>jh (by rw[zc b];exact k3)
  have l:((t.flags.map xy).length+1)*17<=140737488355328:=by rw[zb];omega
  refine zj Tryz.f149 [] 19 rfl rfl rfl rfl rfl rfl (by decide) (hex) λB=>?_
  simp only[go_sem]
  refine zV rfl [.res] 1 [(0,0,[]),(1,0,[]),(2,0,[]),(3,0,[]),(5,0,[]),(7,0,[]),(4,0,[]),(6,0,[]),(8,0,[]),(9,0,[]),(10,0,[]),(11,0,[]),(12,0,[]),(13,0,[])] rfl (by decide) (by decide) ?_
  simp only[go_sem,v,z,hid,m,n,f,l]
  have c:∀o,(h.set id o)[i]? =some (.box 138 (wX s a p x (.tl id st))):=λo=>by rw[zc b];exact k3
  refine⟨.tup [],by simp only[go_sem],.inl ⟨rfl,((k1.set w rfl).set k2 rfl).app (zr rfl (zG rfl)),k2,((j.set_row d _).set_box (c _) (by decide) _).app _,_,_,_,zf (zq (c _)),((k4.set_row d (by decide) _).set_box (c _) _).app _,.inr ⟨id,st+1,w,rfl,zf ?_⟩,((k6.set_row d (by decide) _).set_box (c _) (by decide) _).app _⟩⟩
  rw[zc (Ne.symm b),zq d,wh,zy]
  rfl
theorem qFb(F:List (Nat × List AV))(h0 h:List Ob)(i E nl l nt m:Nat)(s:Setup)(a:SA)(Z:AV)(n:List (List AV))(t:TellS)(first last b to_:Int)(c next:Ev)(A:PartIn F h0 h i E nl l nt m s a Z n first last b c t)(hl:t.segs.length<1099511627776):
  ACalls Tryz.prog 218 [i64 to_,evV next,.ptr E 0,.ptr nl 0,.ptr l 0,.ptr nt 0,.ptr m 0] h λr h'=>r= .tup []/\PartIn F h0 h' i E nl l nt m s a Z n first last (toP first last to_) next (y8 t b (toP first last to_) c):=by
 have hex:=A.any (toP first last to_) next (y8 t b (toP first last to_) c)
 refine zj Tryz.f218 [] 37 rfl rfl rfl rfl rfl rfl (by decide) (hex) λB=>?_
 rw[xG,xG]
 refine QK (λT h'=>∃I,PartIn F h0 h' i E nl l nt m s a Z n first last b c (y8 t b (toP first last to_) c)/\T 0=i64 (toP first last to_)/\T 4= .ptr l 0/\T 6= .ptr m 0/\T 8= .ptr I 0/\h'[I]? =some (.box 75 (evC next))) ?_ ?_
 ·have P:=A
  obtain⟨n1,n2,n3,n4,n5,b1,b2,b3,b4,b5,⟨k1,k2,kf,p,x,y,k3,k4,k5,k6⟩,b6⟩:=P
  have β:=k1.len
  have C:∀M,(h++M)[E]? =some (.box 3 [i64 first]):=λM=>zf b1
  have g:∀M,(h++M)[nl]? =some (.box 3 [i64 last]):=λM=>zf b2
  have v:∀M,(h++M)[l]? =some (.box 3 [i64 b]):=λM=>zf b3
  have w:∀M,(h++M)[nt]? =some (.box 135 [.ptr i 0]):=λM=>zf b4
  have D:∀M,(h++M)[m]? =some (.box 75 (evC c)):=λM=>zf b5
  simp only[go_sem,C,g,v,w,D,QL,QM]
  refine ways (λe=>?_) (λe=>?_)
  ·have S:b<toP first last to_:=of_decide_eq_true e
   rw[y8,if_pos S]
   have J:∀M,(h++M)[i]? =some (.box 138 (wX s a p x y)):=λM=>zf k3
   have H:∀M o,(h++M).set i o=h.set i o++M:=λM o=>jh k3
   rcases k4 with⟨rfl,hn⟩|⟨id,st,q1,rfl,f⟩
   ·simp only[go_sem]
    refine zV rfl [.res] 1 [(6,0,[]),(9,0,[]),(11,0,[]),(0,0,[]),(1,0,[]),(2,0,[]),(3,0,[]),(4,0,[]),(5,0,[]),(7,0,[]),(10,0,[]),(12,0,[]),(8,0,[0,1,4,5,10,12]),(13,0,[]),(14,0,[]),(15,0,[0]),(16,0,[]),(17,0,[]),(18,0,[])] rfl (by decide) (by decide) ?_
    simp only[go_sem,C,g,v,w,D,J,H]
    refine zg (qEb c _) ?_
    rintro _ h1 ⟨rfl,g⟩
    subst g
    simp only[go_sem,C,g,v,w,D,J,H]
    refine⟨h.length,A.tell ⟨(k1.set k2 rfl).app (zr rfl (zr rfl (zG rfl))),k2,(kf.set_box k3 (by decide) _).app _,_,_,_,zf (zq k3),.inr ⟨h.length+2,0,by omega,rfl,?_⟩,(k5.set_box k3 _).app _,(k6.set_box k3 (by decide) _).app _⟩,rfl,rfl,?_⟩
    ·rw[zK (by simp),zy,hn]
     rfl
    ·rw[zM (by simp)]
     rfl
   ·have hid:∀M,(h++M)[id]? =some (.row 146 5 (t.segs.map kG) st):=λM=>zf f
    have N:∀M o,(h++M).set id o=h.set id o++M:=λM o=>jh f
    have G:id≠i:=λq=>by rw[q,k3] at f;cases f
    have d:∀o,(h.set id o)[i]? =some (.box 138 (wX s a p (.tl id st) y)):=λo=>by rw[zc G];exact k3
    have O:∀M o,(h.set id o++M)[i]? =some (.box 138 (wX s a p (.tl id st) y)):=λM o=>zf (d o)
    have R:∀M o W,(h.set id o++M).set i W=(h.set id o).set i W++M:=λM o W=>jh (d o)
    have U:((t.segs.map kG).length+1)*41<=140737488355328:=by rw[zb];omega
    have z:∀ {j u:Nat} {cs:List AV},h[j]? =some (.box u cs)->∀o M,(h.set id o++M)[j]? =some (.box u cs):=λhj o M=>zf (by
     rw[zc (λq=>by rw[q,hj] at f;cases f)];exact hj)
    have α:=z b1
    have V:=z b2
    have L:=z b3
    have Q:=z b4
    have Y:=z b5
    simp only[go_sem]
    refine zV rfl [.res] 1 [(6,0,[]),(9,0,[]),(11,0,[]),(0,0,[]),(1,0,[]),(2,0,[]),(3,0,[]),(4,0,[]),(5,0,[]),(7,0,[]),(10,0,[]),(12,0,[]),(8,0,[0,1,4,5,10,12]),(13,0,[]),(14,0,[]),(15,0,[0]),(16,0,[]),(17,0,[]),(18,0,[])] rfl (by decide) (by decide) ?_
    simp only[go_sem,C,g,v,w,D,J,H]
    refine zg (qEb c _) ?_
    rintro _ h1 ⟨rfl,g⟩
    subst g
    simp only[go_sem,C,g,v,w,D,J,H,hid,N,O,R,U,α,V,L,Q,Y]
    refine⟨h.length,A.tell2 f (by decide) ⟨((k1.set q1 rfl).set k2 rfl).app (zr rfl (zG rfl)),k2,((kf.set_row f _).set_box (d _) (by decide) _).app _,_,_,_,zf (zq (d _)),.inr ⟨id,st+1,q1,rfl,zf ?_⟩,((k5.set_row f (by decide) _).set_box (d _) _).app _,((k6.set_row f (by decide) _).set_box (d _) (by decide) _).app _⟩,rfl,rfl,?_⟩
    ·rw[zc (Ne.symm G),zq f,zy]
     rfl
    ·rw[zM (by simp)]
     rfl
  ·have X:¬ b<toP first last to_:=of_decide_eq_false e
   rw[y8,if_neg X]
   simp only[go_sem]
   exact⟨h.length,A.app (zG rfl),rfl,rfl,by simp⟩
 ·rintro T h' ⟨I,k,t0,t4,t6,t8,K⟩
  have g3:=k.b3
  have g5:∀o,(h'.set l o)[m]? =some (.box 75 (evC c)):=λo=>by rw[zc (vz k.b3 k.b5 (by decide))];exact k.b5
  have g8:∀o,(h'.set l o)[I]? =some (.box 75 (evC next)):=λo=>by rw[zc (vz k.b3 K (by decide))];exact K
  simp only[go_sem]
  refine zV rfl [] 0 [(0,0,[]),(1,0,[]),(2,0,[1]),(3,0,[])] rfl (by decide) (by decide) ?_
  simp only[go_sem,t0,t4,t6,t8,K,g3,g5,g8]
  exact⟨.tup [],by simp only[go_sem],.inl ⟨rfl,k.next _ _⟩⟩
theorem c86(F:List (Nat × List AV))(h0 h:List Ob)(i:Nat)(s:Setup)(a:SA)(t:TellS)(e:Ev)(os:List Ev)(at_:Int)(Q:TellIn F h0 h i s a t)(ho:t.open_=some (e,os))(hl:t.segs.length+os.length+1<1099511627776):
  ACalls Tryz.prog 150 [.ptr i 0,i64 at_] h λr h'=>r= .tup []/\TellIn F h0 h' i s a ⟨none,(wB (jS e.at_ s.unit) (jS at_ s.unit) t e os).segs,t.flags⟩:=by
 have hex:=TellIn.ex Q ⟨none,(wB (jS e.at_ s.unit) (jS at_ s.unit) t e os).segs,t.flags⟩
 have H:=Q
 obtain⟨k1,k2,Z,p,x,y,k3,k4,k5,k6⟩:=H
 rw[ho] at k6
 obtain⟨j,o,j1,rfl,j3,U⟩:=k6
 have R:=k1.len
 have P:∀M,(h++M)[i]? =some (.box 138 (wX s a (.ptr j 0) x y)):=λM=>zf k3
 have L:∀M,(h++M)[j]? =some (.box 236 (x0a e o)):=λM=>zf j3
 refine zj Tryz.f150 [] 66 rfl rfl rfl rfl rfl rfl (by decide) (hex) λB=>?_
 simp only[go_sem]
 refine zV rfl [.res,.res] 2 [(14,0,[]),(0,0,[]),(1,0,[]),(2,0,[]),(3,0,[]),(4,0,[]),(5,0,[]),(6,0,[]),(7,0,[]),(8,0,[]),(9,0,[]),(10,0,[]),(11,0,[]),(12,0,[]),(15,0,[]),(16,0,[]),(17,0,[]),(18,0,[]),(19,0,[]),(13,0,[15,19]),(20,0,[]),(21,0,[]),(22,1,[]),(23,0,[]),(24,0,[])] rfl (by decide) (by decide) ?_
 simp only[go_sem,P,L]
 refine zg (c36 _ _ _) ?_
 rintro _ X ⟨rfl,O⟩
 subst O
 simp only[go_sem,P,L]
 refine zg (c36 _ _ _) ?_
 rintro _ X ⟨rfl,O⟩
 subst O
 have hr:∀M,z6 (h++M) o=some (os.map evC):=λM=>(U.app M).rows.rows
 obtain⟨first,b⟩:∃f,f=jS e.at_ s.unit:=⟨_,rfl⟩
 obtain⟨last,l⟩:∃f,f=jS at_ s.unit:=⟨_,rfl⟩
 rw[<-b, <-l]
 simp only[go_sem,P,L,hr,zb]
 have G:PartIn F h0 (h++[.box 135 [.ptr i 0],.box 3 [i64 first],.box 3 [i64 last],.box 3 [i64 first],.box 75 (evC e)]) i (h.length+1) (h.length+2) (h.length+3) (h.length+0) (h.length+4) s a o (os.map evC) first last first e t:=
  ⟨by omega,by omega,by omega,by omega,λz D=>by
   have:=Z z D
   have:=(zd.1 this).1
   omega,by rw[zK rfl];rfl,by rw[zK rfl];rfl,by rw[zK rfl];rfl,by rw[zK rfl];rfl,by rw[zK rfl];rfl,Q.app (zr rfl (zr rfl (zr rfl (zr rfl (zG rfl))))),U.app _⟩
 refine zP (by decide) (λm T h'=>∃k:Nat,k<=os.length/\PartIn F h0 h' i (h.length+1) (h.length+2) (h.length+3) h.length (h.length+4) s a o (os.map evC) first last (vL first last t e (os.take k)).1 (vL first last t e (os.take k)).2.1 (vL first last t e (os.take k)).2.2/\T 2= .ptr h.length 0/\T 5= .ptr (h.length+2) 0/\T 8= .fn (.func 218) [] [.ptr (h.length+1) 0,.ptr (h.length+2) 0,.ptr (h.length+3) 0,.ptr h.length 0,.ptr (h.length+4) 0]/\T 47=o/\T 48=i64 os.length/\T 49=i64 k/\m=os.length - k) os.length
  ⟨0,by omega,G,by simp only[go_sem],by simp only[go_sem],by simp only[go_sem],by simp only[go_sem],by simp only[go_sem],by(simp only[go_sem]<;>rfl),rfl⟩ ?_
 rintro m T h' ⟨k,hk,w,t2,t5,t8,u,C,d,rfl⟩
 simp only[go_sem,C,d]
 refine ways (λK=>?_) (λK=>?_)
 ·have c:=dlt K
  have V:SlOf h' o 11 (os.map evC):=w.b6.rows
  have J:=V.at (i:=k) (by simpa using c)
  have I:=V.rows
  have n:(os.map evC)[k]? =some (evC os[k]):=j9 (zi c)
  have E:(k:Int)<os.length:=by omega
  simp only[go_sem,u,d,J,I,n,E,zb,Int.toNat_natCast,zh,t8]
  have g:vL first last t e (os.take (k+1))=y9 first last (vL first last t e (os.take k)) os[k]:=by
   rw[vL, <-zI c,qY]
   rfl
  have D:(vL first last t e (os.take k)).2.2.segs.length<=t.segs.length+(os.take k).length:=Vz (os.take k) (z:=(first,e,t))
  rw[qa] at D
  refine zg (qFb F h0 _ i _ _ _ _ _ s a o (os.map evC) _ first last _ os[k].at_ _ os[k] (w.app (zG rfl)) (by omega)) ?_
  rintro _ h3 ⟨rfl,q⟩
  simp only[go_sem,d]
  refine⟨os.length - (k+1),by omega,k+1,by omega,?_,t2,t5,t8,u,C,qm (by omega) rfl,rfl⟩
  rw[g]
  exact q
 ·have θ:=xb K
  have N:k=os.length:=by omega
  subst N
  rw[zZ] at w
  have g2:=w.b2
  have D:(vL first last t e os).2.2.segs.length<=t.segs.length+os.length:=Vz os (z:=(first,e,t))
  simp only[go_sem,t8,t5,g2]
  refine zg (qFb F h0 _ i _ _ _ _ _ s a o (os.map evC) _ first last _ last _ ⟨0,0,0,0,0,0,0,0,0,0,0⟩ w (by omega)) ?_
  rintro _ h3 ⟨rfl,q⟩
  have Y:=q.b4
  obtain⟨m1,S,mf,p',x',y',A,m4,W,m6⟩:=q.t
  simp only[go_sem,t2,Y,A]
  exact⟨.tup [],by simp only[go_sem],.inl ⟨rfl,m1.set S rfl,S,mf.set_box A (by decide) _,_,_,_,zq A,m4.set_box A _,(by
   have:=W.set_box A (o:= .box 138 (wX s a (.v (.pointer none)) x' y'))
   rw[Wh,x1a] at this
   exact this),rfl⟩⟩
def ZA(s:Setup)(t:TellS)(e:Ev)(os:List Ev)(at_:Int):TellS:=⟨none,(wB (jS e.at_ s.unit) (jS at_ s.unit) t e os).segs,t.flags⟩
def jO(s:Setup)(t:TellS)(at_:Int):TellS:=match t.open_ with
 | none=>t
 | some (e,os)=>if at_>wr (e.at_+s.cap) then ZA s (wh t e 1) e os (wr (e.at_+s.cap)) else t
def yK(s:Setup)(t:TellS)(e:Ev):TellS:=
 if e.kind=1 then(match (jO s t e.at_).open_ with
  | none=>⟨some (e,[]),(jO s t e.at_).segs,(jO s t e.at_).flags⟩
  | some (f,os)=>⟨some (e,[]),(ZA s (wh (jO s t e.at_) f 2) f os e.at_).segs,(ZA s (wh (jO s t e.at_) f 2) f os e.at_).flags⟩)
 else match (jO s t e.at_).open_ with
  | none=>wh (jO s t e.at_) e 3
  | some (f,os)=>if e.kind=2 then ZA s (jO s t e.at_) f os e.at_ else⟨some (f,os++[e]),(jO s t e.at_).segs,(jO s t e.at_).flags⟩
def szO:Option (Ev × List Ev)->Nat
 | none=>0
 | some (_,os)=>os.length+1
def szT(t:TellS):Nat:=t.segs.length+t.flags.length+szO t.open_
theorem z8a{first last:Int}{t:TellS}{e:Ev}{os:List Ev}:(wB first last t e os).segs.length<=t.segs.length+os.length+1:=by
 have c:=qJa (t:=(vL first last t e os).2.2) (b:=(vL first last t e os).1) (to_:=toP first last last) (e:=(vL first last t e os).2.1)
 have a:(vL first last t e os).2.2.segs.length<=t.segs.length+os.length:=Vz os (z:=(first,e,t))
 unfold wB
 omega
theorem YH{t:TellS}{e:Ev}{k:Int}:szT (wh t e k)=szT t+1:=by simp[szT,wh];omega
theorem VA{s:Setup}{t:TellS}{e:Ev}{os:List Ev}{at_:Int}(h:t.open_=some (e,os)):szT (ZA s t e os at_)<=szT t:=by
 have:=z8a (first:=jS e.at_ s.unit) (last:=jS at_ s.unit) (t:=t) (e:=e) (os:=os)
 simp only[szT,ZA,h,szO]
 omega
theorem KN{s:Setup}{t:TellS}{at_:Int}:szT (jO s t at_)<=szT t+1:=by
 unfold jO
 split
 ·omega
 ·rename_i e os a
  split
  ·have:=VA (s:=s) (t:=wh t e 1) (e:=e) (os:=os) (at_:=wr (e.at_+s.cap)) a
   rw[YH] at this
   exact this
  ·omega
theorem JVa{s:Setup}{t:TellS}{e:Ev}:szT (yK s t e)<=szT t+3:=by
 have b:=KN (s:=s) (t:=t) (at_:=e.at_)
 unfold yK
 split
 ·split
  ·rename_i a
   simp only[szT,szO,a,List.length_nil] at b⊢
   omega
  ·rename_i f os a
   have:=VA (s:=s) (t:=wh (jO s t e.at_) f 2) (e:=f) (os:=os) (at_:=e.at_) a
   rw[YH] at this
   simp only[szT,szO,ZA,List.length_nil] at this b⊢
   omega
 ·split
  ·rw[YH];omega
  ·rename_i f os a
   split
   ·have:=VA (s:=s) (t:=jO s t e.at_) (e:=f) (os:=os) (at_:=e.at_) a
    omega
   ·simp only[szT,szO,a,ze,List.length_cons,List.length_nil] at b⊢
    omega
