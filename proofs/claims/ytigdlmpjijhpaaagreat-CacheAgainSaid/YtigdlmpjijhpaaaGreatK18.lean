import Derived.Test.YtigdlmpjijhpaaaGreatKA
import Derived.Test.YtigdlmpjijhpaaaGreatK17
set_option linter.all false
namespace Go.Proofs.YtigdlmpjijhpaaaGreat.Ax
open Go Go.Proofs
set_option maxRecDepth 100000
attribute [go_sem] Yoa Yua Yma Yna Yka qyb qAb Yqa YAa Yza
theorem Q7{a b:Int}:(if b<a then b else a)=min a b:=by split<;>omega
theorem Q8{a b:Int}:(if b>a then b else a)=max a b:=by split<;>omega
def qI(n hi:Int):Int:=min (max n 0) hi
theorem c69(n hi:Int):xA Tryz.prog 172 [i64 n,i64 hi] (i64 (qI n hi)):=λh=>by
 refine zi Tryz.f172 [.tmp 4] 9 rfl rfl rfl rfl rfl rfl (by decide) (⟨_,_,⟨rfl,rfl⟩,.refl⟩) λB=>?_
 simp only[go_sem]
 refine zn ?_<;>(simp only[go_sem,qI,Q7,Q8]<;>try rfl)
def ofI(n a:Int):Int:=wr ((qI n 32054399).tdiv a)
theorem c51(n a:Int)(b:¬ a=0):xA Tryz.prog 140 [i64 n,i64 a] (i64 (ofI n a)):=λh=>by
 refine zi Tryz.f140 [.tmp 4] 9 rfl rfl rfl rfl rfl rfl (by decide) (⟨_,_,⟨rfl,rfl⟩,.refl⟩) λB=>?_
 simp only[go_sem]
 refine zg (c69 _ _ _) ?_
 rintro _ _ ⟨rfl,rfl⟩
 simp only[go_sem,b]
 refine zn ?_<;>(simp only[go_sem,ofI]<;>try rfl)
def xW(n:Int):Int:=ofI n 604800
theorem c17(n:Int):xA Tryz.prog 63 [i64 n] (i64 (xW n)):=λh=>by
 refine zi Tryz.f63 [.tmp 2] 5 rfl rfl rfl rfl rfl rfl (by decide) (⟨_,_,⟨rfl,rfl⟩,.refl⟩) λB=>?_
 simp only[go_sem]
 refine zg (c51 _ _ (by decide) _) ?_
 rintro _ _ ⟨rfl,rfl⟩
 simp only[go_sem]
 refine zn ?_<;>(simp only[go_sem,xW]<;>try rfl)
def kI(a b:Int):Int × Int:=if a.tmod b<0 then(wr (wr (a.tdiv b) - 1),wr (a.tmod b+b)) else(wr (a.tdiv b),a.tmod b)
abbrev XO(p:Int × Int):AV:= .tup [i64 p.1,i64 p.2]
theorem c97(a b:Int)(d:¬ b=0):xA Tryz.prog 209 [i64 a,i64 b] (XO (kI a b)):=λh=>by
 refine zi Tryz.f209 [.tmp 4,.tmp 5] 21 rfl rfl rfl rfl rfl rfl (by decide) (⟨_,_,⟨rfl,rfl⟩,.refl⟩) λB=>?_
 simp only[go_sem]
 refine zL rfl [] 0 [(0,0,[]),(1,0,[]),(2,0,[]),(3,0,[]),(4,0,[]),(5,0,[]),(6,0,[]),(7,0,[])] rfl (by decide) (by decide) ?_
 simp only[go_sem,d]
 refine ways (λe=>?_) (λe=>?_)
 ·have c:a.tmod b<0:=by simpa using e
  simp only[go_sem]
  refine zn ?_<;>(simp only[go_sem,kI,c]<;>try rfl)
 ·have c:¬ a.tmod b<0:=by simpa using e
  simp only[go_sem]
  refine zn ?_<;>(simp only[go_sem,kI,c]<;>try rfl)
def K8(n d:Int):Int × Int:=if d<=0 then(0,20) else if(kI n d).2≥wr (d - (kI n d).2) then(wr ((kI n d).1+1),0) else((kI n d).1,0)
theorem c70(n d:Int):xA Tryz.prog 208 [i64 n,i64 d] (XO (K8 n d)):=λh=>by
 refine zi Tryz.f208 [.tmp 4,.tmp 5] 24 rfl rfl rfl rfl rfl rfl (by decide) (⟨_,_,⟨rfl,rfl⟩,.refl⟩) λB=>?_
 simp only[go_sem]
 refine ways (λe=>?_) (λe=>?_)
 ·have b:d<=0:=by simpa using e
  simp only[go_sem]
  refine zn ?_<;>(simp only[go_sem,K8,b]<;>try rfl)
 ·have b:¬ d<=0:=by simpa using e
  simp only[go_sem]
  refine zg (c97 n d (by omega) _) ?_
  rintro _ _ ⟨rfl,rfl⟩
  simp only[go_sem]
  refine ways (λa=>?_) (λa=>?_)
  ·have a:(kI n d).2≥wr (d - (kI n d).2):=by simpa using a
   simp only[go_sem]
   refine zn ?_<;>(simp only[go_sem,K8,b,a]<;>try rfl)
  ·have a:¬ (kI n d).2≥wr (d - (kI n d).2):=by simpa using a
   simp only[go_sem]
   refine zn ?_<;>(simp only[go_sem,K8,b,a]<;>try rfl)
def jw(t u:Int):Int:=if u<1 then qI t 32054400 else min (wr ((K8 (qI t 32054400) u).1*min u 64108801)) 32054400
theorem c36(t u:Int):xA Tryz.prog 217 [i64 t,i64 u] (i64 (jw t u)):=λh=>by
 refine zi Tryz.f217 [.tmp 4] 23 rfl rfl rfl rfl rfl rfl (by decide) (⟨_,_,⟨rfl,rfl⟩,.refl⟩) λB=>?_
 simp only[go_sem]
 refine zg (c69 _ _ _) ?_
 rintro _ _ ⟨rfl,rfl⟩
 simp only[go_sem]
 refine ways (λe=>?_) (λe=>?_)
 ·have a:u<1:=by simpa using e
  simp only[go_sem]
  refine zn ?_<;>(simp only[go_sem,jw,a]<;>try rfl)
 ·have a:¬ u<1:=by simpa using e
  simp only[go_sem]
  refine zg (c70 _ _ _) ?_
  rintro _ _ ⟨rfl,rfl⟩
  simp only[go_sem]
  refine zn ?_<;>(simp only[go_sem,jw,a,Q7]<;>try rfl)
theorem jpb(e:Ev):xA Tryz.prog 219 [evV e] (i64 (J1 e.kind)):=λh=>by
 refine zi Tryz.f219 [.tmp 2] 11 rfl rfl rfl rfl rfl rfl (by decide) (⟨_,_,⟨rfl,rfl⟩,.refl⟩) λB=>?_
 simp only[go_sem]
 refine ways (λa=>?_) (λa=>?_)
 ·simp only[go_sem]
  have a:e.kind=3:=by simpa using a
  refine zn ?_<;>(simp only[go_sem,J1,a]<;>try rfl)
 ·simp only[go_sem]
  have a:¬ e.kind=3:=by simpa using a
  refine ways (λb=>?_) (λb=>?_)
  ·simp only[go_sem]
   have b:e.kind=4:=by simpa using b
   refine zn ?_<;>(simp only[go_sem,J1,a,b]<;>try rfl)
  ·simp only[go_sem]
   have b:¬ e.kind=4:=by simpa using b
   refine ways (λc=>?_) (λc=>?_)
   ·simp only[go_sem]
    have c:e.kind=5:=by simpa using c
    refine zn ?_<;>(simp only[go_sem,J1,a,b,c]<;>try rfl)
   ·simp only[go_sem]
    have c:¬ e.kind=5:=by simpa using c
    refine zn ?_<;>(simp only[go_sem,J1,a,b,c]<;>try rfl)
theorem c90(h:List Ob)(i j:Nat)(s:Setup)(a:SA)(x y o:AV)(e:Ev)(hi:h[i]? =some (.box 138 (yn s a (.ptr j 0) x y)))(b:h[j]? =some (.box 236 (kca e o))):
  ACalls Tryz.prog 151 [.ptr i 0] h λr h'=>r=i64 (wr (e.at_+s.cap))/\h'=h:=by
 refine zi Tryz.f151 [.tmp 2] 17 rfl rfl rfl rfl rfl rfl (by decide) (⟨_,_,⟨rfl,rfl⟩,.refl⟩) λB=>?_
 simp only[go_sem]
 refine zL rfl [] 0 [(0,0,[]),(1,0,[]),(2,0,[]),(8,0,[]),(9,0,[]),(10,0,[]),(11,0,[]),(3,0,[]),(4,0,[]),(5,0,[]),(6,0,[]),(7,0,[]),(12,0,[]),(13,0,[]),(14,0,[])] rfl (by decide) (by decide) ?_
 simp only[go_sem,hi,b]
 refine zn ?_<;>(simp only[go_sem]<;>try rfl)
theorem c85(F:List (Nat × List AV))(h0 h:List Ob)(i:Nat)(s:Setup)(a:SA)(t:TellS)(e:Ev)(k:Int)(C:TellIn F h0 h i s a t)(D:t.flags.length<1099511627776):
  ACalls Tryz.prog 149 [.ptr i 0,evV e,i64 k] h λr h'=>r= .tup []/\TellIn F h0 h' i s a (xK t e k):=by
 obtain⟨k1,k2,n,p,x,y,k3,k4,k5,k6⟩:=C
 have u:∀M,(h++M)[i]? =some (.box 138 (yn s a p x y)):=λM=>ze k3
 have v:∀M o,(h++M).set i o=h.set i o++M:=λM o=>jk k3
 have hex:=TellIn.ex (t:=t) ⟨k1,k2,n,p,x,y,k3,k4,k5,k6⟩ (xK t e k)
 have w:=k1.len
 rcases k5 with⟨rfl,A⟩|⟨id,st,z,rfl,d⟩
 ·refine zi Tryz.f149 [] 19 rfl rfl rfl rfl rfl rfl (by decide) (hex) λB=>?_
  simp only[go_sem]
  refine zL rfl [.res] 1 [(0,0,[]),(1,0,[]),(2,0,[]),(3,0,[]),(5,0,[]),(7,0,[]),(4,0,[]),(6,0,[]),(8,0,[]),(9,0,[]),(10,0,[]),(11,0,[]),(12,0,[]),(13,0,[])] rfl (by decide) (by decide) ?_
  simp only[go_sem,u,v]
  refine⟨.tup [],by simp only[go_sem],.inl ⟨rfl,(k1.set k2 rfl).app (zl rfl (zl rfl (zD rfl))),k2,(n.set_box k3 (by decide) _).app _,_,_,_,ze (zm k3),(k4.set_box k3 _).app _,.inr ⟨h.length+2,0,by omega,rfl,?_⟩,(k6.set_box k3 (by decide) _).app _⟩⟩
  rw[zG (by simp),xK,zw,A]
  rfl
 ·have hid:∀M,(h++M)[id]? =some (.row 105 2 (t.flags.map km) st):=λM=>ze d
  have j:∀M o,(h++M).set id o=h.set id o++M:=λM o=>jk d
  have c:id≠i:=λq=>by rw[q,k3] at d;cases d
  have m:∀M o,(h.set id o++M)[i]? =some (.box 138 (yn s a p x (.tl id st))):=λM o=>ze (by rw[zc c];exact k3)
  have l:∀M o g,(h.set id o++M).set i g=(h.set id o).set i g++M:=λM o g=>jk (by rw[zc c];exact k3)
  have f:((t.flags.map km).length+1)*17<=140737488355328:=by rw[zb];omega
  refine zi Tryz.f149 [] 19 rfl rfl rfl rfl rfl rfl (by decide) (hex) λB=>?_
  simp only[go_sem]
  refine zL rfl [.res] 1 [(0,0,[]),(1,0,[]),(2,0,[]),(3,0,[]),(5,0,[]),(7,0,[]),(4,0,[]),(6,0,[]),(8,0,[]),(9,0,[]),(10,0,[]),(11,0,[]),(12,0,[]),(13,0,[])] rfl (by decide) (by decide) ?_
  simp only[go_sem,u,v,hid,j,m,l,f]
  have b:∀o,(h.set id o)[i]? =some (.box 138 (yn s a p x (.tl id st))):=λo=>by rw[zc c];exact k3
  refine⟨.tup [],by simp only[go_sem],.inl ⟨rfl,((k1.set z rfl).set k2 rfl).app (zl rfl (zD rfl)),k2,((n.set_row d _).set_box (b _) (by decide) _).app _,_,_,_,ze (zm (b _)),((k4.set_row d (by decide) _).set_box (b _) _).app _,.inr ⟨id,st+1,z,rfl,ze ?_⟩,((k6.set_row d (by decide) _).set_box (b _) (by decide) _).app _⟩⟩
  rw[zc (Ne.symm c),zm d,xK,zw]
  rfl
theorem jqb(F:List (Nat × List AV))(h0 h:List Ob)(i D nl l nt m:Nat)(s:Setup)(a:SA)(V:AV)(n:List (List AV))(t:TellS)(first last b to_:Int)(c next:Ev)(G:PartIn F h0 h i D nl l nt m s a V n first last b c t)(hl:t.segs.length<1099511627776):
  ACalls Tryz.prog 218 [i64 to_,evV next,.ptr D 0,.ptr nl 0,.ptr l 0,.ptr nt 0,.ptr m 0] h λr h'=>r= .tup []/\PartIn F h0 h' i D nl l nt m s a V n first last (toP first last to_) next (ye t b (toP first last to_) c):=by
 have hex:=G.any (toP first last to_) next (ye t b (toP first last to_) c)
 refine zi Tryz.f218 [] 37 rfl rfl rfl rfl rfl rfl (by decide) (hex) λB=>?_
 rw[xM,xM]
 refine w9 (λT h'=>∃J,PartIn F h0 h' i D nl l nt m s a V n first last b c (ye t b (toP first last to_) c)/\T 0=i64 (toP first last to_)/\T 4= .ptr l 0/\T 6= .ptr m 0/\T 8= .ptr J 0/\h'[J]? =some (.box 75 (evC next))) ?_ ?_
 ·have P:=G
  obtain⟨n1,n2,n3,n4,n5,b1,b2,b3,b4,b5,⟨k1,k2,kf,p,x,y,k3,k4,k5,k6⟩,b6⟩:=P
  have ε:=k1.len
  have z:∀M,(h++M)[D]? =some (.box 3 [i64 first]):=λM=>ze b1
  have g:∀M,(h++M)[nl]? =some (.box 3 [i64 last]):=λM=>ze b2
  have E:∀M,(h++M)[l]? =some (.box 3 [i64 b]):=λM=>ze b3
  have v:∀M,(h++M)[nt]? =some (.box 135 [.ptr i 0]):=λM=>ze b4
  have A:∀M,(h++M)[m]? =some (.box 75 (evC c)):=λM=>ze b5
  simp only[go_sem,z,g,E,v,A,Q7,Q8]
  refine ways (λe=>?_) (λe=>?_)
  ·have U:b<toP first last to_:=of_decide_eq_true e
   rw[ye,if_pos U]
   have H:∀M,(h++M)[i]? =some (.box 138 (yn s a p x y)):=λM=>ze k3
   have I:∀M o,(h++M).set i o=h.set i o++M:=λM o=>jk k3
   rcases k4 with⟨rfl,hn⟩|⟨id,st,q1,rfl,f⟩
   ·simp only[go_sem]
    refine zL rfl [.res] 1 [(6,0,[]),(9,0,[]),(11,0,[]),(0,0,[]),(1,0,[]),(2,0,[]),(3,0,[]),(4,0,[]),(5,0,[]),(7,0,[]),(10,0,[]),(12,0,[]),(8,0,[0,1,4,5,10,12]),(13,0,[]),(14,0,[]),(15,0,[0]),(16,0,[]),(17,0,[]),(18,0,[])] rfl (by decide) (by decide) ?_
    simp only[go_sem,z,g,E,v,A,H,I]
    refine zg (jpb c _) ?_
    rintro _ h1 ⟨rfl,g⟩
    subst g
    simp only[go_sem,z,g,E,v,A,H,I]
    refine⟨h.length,G.tell ⟨(k1.set k2 rfl).app (zl rfl (zl rfl (zD rfl))),k2,(kf.set_box k3 (by decide) _).app _,_,_,_,ze (zm k3),.inr ⟨h.length+2,0,by omega,rfl,?_⟩,(k5.set_box k3 _).app _,(k6.set_box k3 (by decide) _).app _⟩,rfl,rfl,?_⟩
    ·rw[zG (by simp),zw,hn]
     rfl
    ·rw[zM (by simp)]
     rfl
   ·have hid:∀M,(h++M)[id]? =some (.row 146 5 (t.segs.map xT) st):=λM=>ze f
    have N:∀M o,(h++M).set id o=h.set id o++M:=λM o=>jk f
    have w:id≠i:=λq=>by rw[q,k3] at f;cases f
    have d:∀o,(h.set id o)[i]? =some (.box 138 (yn s a p (.tl id st) y)):=λo=>by rw[zc w];exact k3
    have O:∀M o,(h.set id o++M)[i]? =some (.box 138 (yn s a p (.tl id st) y)):=λM o=>ze (d o)
    have Z:∀M o L,(h.set id o++M).set i L=(h.set id o).set i L++M:=λM o L=>jk (d o)
    have Y:((t.segs.map xT).length+1)*41<=140737488355328:=by rw[zb];omega
    have C:∀ {j u:Nat} {cs:List AV},h[j]? =some (.box u cs)->∀o M,(h.set id o++M)[j]? =some (.box u cs):=λhj o M=>ze (by
     rw[zc (λq=>by rw[q,hj] at f;cases f)];exact hj)
    have R:=C b1
    have W:=C b2
    have Q:=C b3
    have X:=C b4
    have α:=C b5
    simp only[go_sem]
    refine zL rfl [.res] 1 [(6,0,[]),(9,0,[]),(11,0,[]),(0,0,[]),(1,0,[]),(2,0,[]),(3,0,[]),(4,0,[]),(5,0,[]),(7,0,[]),(10,0,[]),(12,0,[]),(8,0,[0,1,4,5,10,12]),(13,0,[]),(14,0,[]),(15,0,[0]),(16,0,[]),(17,0,[]),(18,0,[])] rfl (by decide) (by decide) ?_
    simp only[go_sem,z,g,E,v,A,H,I]
    refine zg (jpb c _) ?_
    rintro _ h1 ⟨rfl,g⟩
    subst g
    simp only[go_sem,z,g,E,v,A,H,I,hid,N,O,Z,Y,R,W,Q,X,α]
    refine⟨h.length,G.tell2 f (by decide) ⟨((k1.set q1 rfl).set k2 rfl).app (zl rfl (zD rfl)),k2,((kf.set_row f _).set_box (d _) (by decide) _).app _,_,_,_,ze (zm (d _)),.inr ⟨id,st+1,q1,rfl,ze ?_⟩,((k5.set_row f (by decide) _).set_box (d _) _).app _,((k6.set_row f (by decide) _).set_box (d _) (by decide) _).app _⟩,rfl,rfl,?_⟩
    ·rw[zc (Ne.symm w),zm f,zw]
     rfl
    ·rw[zM (by simp)]
     rfl
  ·have K:¬ b<toP first last to_:=of_decide_eq_false e
   rw[ye,if_neg K]
   simp only[go_sem]
   exact⟨h.length,G.app (zD rfl),rfl,rfl,by simp⟩
 ·rintro T h' ⟨J,k,t0,t4,t6,t8,S⟩
  have g3:=k.b3
  have g5:∀o,(h'.set l o)[m]? =some (.box 75 (evC c)):=λo=>by rw[zc (vI k.b3 k.b5 (by decide))];exact k.b5
  have g8:∀o,(h'.set l o)[J]? =some (.box 75 (evC next)):=λo=>by rw[zc (vI k.b3 S (by decide))];exact S
  simp only[go_sem]
  refine zL rfl [] 0 [(0,0,[]),(1,0,[]),(2,0,[1]),(3,0,[])] rfl (by decide) (by decide) ?_
  simp only[go_sem,t0,t4,t6,t8,S,g3,g5,g8]
  exact⟨.tup [],by simp only[go_sem],.inl ⟨rfl,k.next _ _⟩⟩
theorem c86(F:List (Nat × List AV))(h0 h:List Ob)(i:Nat)(s:Setup)(a:SA)(t:TellS)(e:Ev)(os:List Ev)(at_:Int)(L:TellIn F h0 h i s a t)(ho:t.open_=some (e,os))(hl:t.segs.length+os.length+1<1099511627776):
  ACalls Tryz.prog 150 [.ptr i 0,i64 at_] h λr h'=>r= .tup []/\TellIn F h0 h' i s a ⟨none,(wN (jw e.at_ s.unit) (jw at_ s.unit) t e os).segs,t.flags⟩:=by
 have hex:=TellIn.ex L ⟨none,(wN (jw e.at_ s.unit) (jw at_ s.unit) t e os).segs,t.flags⟩
 have N:=L
 obtain⟨k1,k2,Y,p,x,y,k3,k4,k5,k6⟩:=N
 rw[ho] at k6
 obtain⟨j,o,j1,rfl,j3,S⟩:=k6
 have V:=k1.len
 have E:∀M,(h++M)[i]? =some (.box 138 (yn s a (.ptr j 0) x y)):=λM=>ze k3
 have J:∀M,(h++M)[j]? =some (.box 236 (kca e o)):=λM=>ze j3
 refine zi Tryz.f150 [] 66 rfl rfl rfl rfl rfl rfl (by decide) (hex) λB=>?_
 simp only[go_sem]
 refine zL rfl [.res,.res] 2 [(14,0,[]),(0,0,[]),(1,0,[]),(2,0,[]),(3,0,[]),(4,0,[]),(5,0,[]),(6,0,[]),(7,0,[]),(8,0,[]),(9,0,[]),(10,0,[]),(11,0,[]),(12,0,[]),(15,0,[]),(16,0,[]),(17,0,[]),(18,0,[]),(19,0,[]),(13,0,[15,19]),(20,0,[]),(21,0,[]),(22,1,[]),(23,0,[]),(24,0,[])] rfl (by decide) (by decide) ?_
 simp only[go_sem,E,J]
 refine zg (c36 _ _ _) ?_
 rintro _ Z ⟨rfl,P⟩
 subst P
 simp only[go_sem,E,J]
 refine zg (c36 _ _ _) ?_
 rintro _ Z ⟨rfl,P⟩
 subst P
 have X:∀M,qa (h++M) o=some (os.map evC):=λM=>(S.app M).rows.rows
 obtain⟨first,b⟩:∃f,f=jw e.at_ s.unit:=⟨_,rfl⟩
 obtain⟨last,l⟩:∃f,f=jw at_ s.unit:=⟨_,rfl⟩
 rw[<-b, <-l]
 simp only[go_sem,E,J,X,zb]
 have O:PartIn F h0 (h++[.box 135 [.ptr i 0],.box 3 [i64 first],.box 3 [i64 last],.box 3 [i64 first],.box 75 (evC e)]) i (h.length+1) (h.length+2) (h.length+3) (h.length+0) (h.length+4) s a o (os.map evC) first last first e t:=
  ⟨by omega,by omega,by omega,by omega,λz D=>by
   have:=Y z D
   have:=(zd.1 this).1
   omega,by rw[zG rfl];rfl,by rw[zG rfl];rfl,by rw[zG rfl];rfl,by rw[zG rfl];rfl,by rw[zG rfl];rfl,L.app (zl rfl (zl rfl (zl rfl (zl rfl (zD rfl))))),S.app _⟩
 refine zI (by decide) (λm T h'=>∃k:Nat,k<=os.length/\PartIn F h0 h' i (h.length+1) (h.length+2) (h.length+3) h.length (h.length+4) s a o (os.map evC) first last (vY first last t e (os.take k)).1 (vY first last t e (os.take k)).2.1 (vY first last t e (os.take k)).2.2/\T 2= .ptr h.length 0/\T 5= .ptr (h.length+2) 0/\T 8= .fn (.func 218) [] [.ptr (h.length+1) 0,.ptr (h.length+2) 0,.ptr (h.length+3) 0,.ptr h.length 0,.ptr (h.length+4) 0]/\T 47=o/\T 48=i64 os.length/\T 49=i64 k/\m=os.length - k) os.length
  ⟨0,by omega,O,by simp only[go_sem],by simp only[go_sem],by simp only[go_sem],by simp only[go_sem],by simp only[go_sem],by(simp only[go_sem]<;>rfl),rfl⟩ ?_
 rintro m T h' ⟨k,hk,A,t2,t5,t8,u,w,g,rfl⟩
 simp only[go_sem,w,g]
 refine ways (λK=>?_) (λK=>?_)
 ·have d:=dlt K
  have R:SlOf h' o 11 (os.map evC):=A.b6.rows
  have H:=R.at (i:=k) (by simpa using d)
  have Q:=R.rows
  have C:(os.map evC)[k]? =some (evC os[k]):=xo (zj d)
  have G:(k:Int)<os.length:=by omega
  simp only[go_sem,u,g,H,Q,C,G,zb,Int.toNat_natCast,zh,t8]
  have c:vY first last t e (os.take (k+1))=wM first last (vY first last t e (os.take k)) os[k]:=by
   rw[vY, <-zE d,qK]
   rfl
  have D:(vY first last t e (os.take k)).2.2.segs.length<=t.segs.length+(os.take k).length:=VN (os.take k) (z:=(first,e,t))
  rw[zJ] at D
  refine zg (jqb F h0 _ i _ _ _ _ _ s a o (os.map evC) _ first last _ os[k].at_ _ os[k] (A.app (zD rfl)) (by omega)) ?_
  rintro _ h3 ⟨rfl,q⟩
  simp only[go_sem,g]
  refine⟨os.length - (k+1),by omega,k+1,by omega,?_,t2,t5,t8,u,w,qf (by omega) rfl,rfl⟩
  rw[c]
  exact q
 ·have W:=j9 K
  have I:k=os.length:=by omega
  subst I
  rw[zP] at A
  have g2:=A.b2
  have D:(vY first last t e os).2.2.segs.length<=t.segs.length+os.length:=VN os (z:=(first,e,t))
  simp only[go_sem,t8,t5,g2]
  refine zg (jqb F h0 _ i _ _ _ _ _ s a o (os.map evC) _ first last _ last _ ⟨0,0,0,0,0,0,0,0,0,0,0⟩ A (by omega)) ?_
  rintro _ h3 ⟨rfl,q⟩
  have q4:=q.b4
  obtain⟨m1,U,mf,p',x',y',n,m4,m5,m6⟩:=q.t
  simp only[go_sem,t2,q4,n]
  exact⟨.tup [],by simp only[go_sem],.inl ⟨rfl,m1.set U rfl,U,mf.set_box n (by decide) _,_,_,_,zm n,m4.set_box n _,(by
   have:=m5.set_box n (o:= .box 138 (yn s a (.v (.pointer none)) x' y'))
   rw[Ww,kda] at this
   exact this),rfl⟩⟩
def vJ(s:Setup)(t:TellS)(e:Ev)(os:List Ev)(at_:Int):TellS:=⟨none,(wN (jw e.at_ s.unit) (jw at_ s.unit) t e os).segs,t.flags⟩
def lateP(s:Setup)(t:TellS)(at_:Int):TellS:=match t.open_ with
 | none=>t
 | some (e,os)=>if at_>wr (e.at_+s.cap) then vJ s (xK t e 1) e os (wr (e.at_+s.cap)) else t
def kw(s:Setup)(t:TellS)(e:Ev):TellS:=
 if e.kind=1 then(match (lateP s t e.at_).open_ with
  | none=>⟨some (e,[]),(lateP s t e.at_).segs,(lateP s t e.at_).flags⟩
  | some (f,os)=>⟨some (e,[]),(vJ s (xK (lateP s t e.at_) f 2) f os e.at_).segs,(vJ s (xK (lateP s t e.at_) f 2) f os e.at_).flags⟩)
 else match (lateP s t e.at_).open_ with
  | none=>xK (lateP s t e.at_) e 3
  | some (f,os)=>if e.kind=2 then vJ s (lateP s t e.at_) f os e.at_ else⟨some (f,os++[e]),(lateP s t e.at_).segs,(lateP s t e.at_).flags⟩
def szO:Option (Ev × List Ev)->Nat
 | none=>0
 | some (_,os)=>os.length+1
def szT(t:TellS):Nat:=t.segs.length+t.flags.length+szO t.open_
theorem qja{first last:Int}{t:TellS}{e:Ev}{os:List Ev}:(wN first last t e os).segs.length<=t.segs.length+os.length+1:=by
 have a:=qKa (t:=(vY first last t e os).2.2) (b:=(vY first last t e os).1) (to_:=toP first last last) (e:=(vY first last t e os).2.1)
 have c:(vY first last t e os).2.2.segs.length<=t.segs.length+os.length:=VN os (z:=(first,e,t))
 unfold wN
 omega
theorem YV{t:TellS}{e:Ev}{k:Int}:szT (xK t e k)=szT t+1:=by simp[szT,xK];omega
theorem VO{s:Setup}{t:TellS}{e:Ev}{os:List Ev}{at_:Int}(h:t.open_=some (e,os)):szT (vJ s t e os at_)<=szT t:=by
 have:=qja (first:=jw e.at_ s.unit) (last:=jw at_ s.unit) (t:=t) (e:=e) (os:=os)
 simp only[szT,vJ,h,szO]
 omega
theorem K9{s:Setup}{t:TellS}{at_:Int}:szT (lateP s t at_)<=szT t+1:=by
 unfold lateP
 split
 ·omega
 ·rename_i e os a
  split
  ·have:=VO (s:=s) (t:=xK t e 1) (e:=e) (os:=os) (at_:=wr (e.at_+s.cap)) a
   rw[YV] at this
   exact this
  ·omega
theorem Xsa{s:Setup}{t:TellS}{e:Ev}:szT (kw s t e)<=szT t+3:=by
 have b:=K9 (s:=s) (t:=t) (at_:=e.at_)
 unfold kw
 split
 ·split
  ·rename_i a
   simp only[szT,szO,a,List.length_nil] at b⊢
   omega
  ·rename_i f os a
   have:=VO (s:=s) (t:=xK (lateP s t e.at_) f 2) (e:=f) (os:=os) (at_:=e.at_) a
   rw[YV] at this
   simp only[szT,szO,vJ,List.length_nil] at this b⊢
   omega
 ·split
  ·rw[YV];omega
  ·rename_i f os a
   split
   ·have:=VO (s:=s) (t:=lateP s t e.at_) (e:=f) (os:=os) (at_:=e.at_) a
    omega
   ·simp only[szT,szO,a,zf,List.length_cons,List.length_nil] at b⊢
    omega
