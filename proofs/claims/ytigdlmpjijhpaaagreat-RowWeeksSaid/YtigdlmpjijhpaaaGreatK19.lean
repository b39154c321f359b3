/-
  Joined.
-/
import Derived.Test.YtigdlmpjijhpaaaGreatK18
import Derived.Test.YtigdlmpjijhpaaaGreatK14
set_option linter.unusedSimpArgs false
set_option linter.unusedVariables false
namespace Go.Proofs.YtigdlmpjijhpaaaGreat.Ax
open Go Go.Proofs
set_option maxRecDepth 100000
theorem c58 (F:List (Nat × List AV)) (h0 h:List Ob) (i:Nat) (s:Setup) (a:SA) (t:TellS) (at_:Int) (g:TellIn F h0 h i s a t) (C:szT t+2<1099511627776):
  ACalls Tryz.prog 69 [.ptr i 0,i64 at_] h λr h'=>r= .tup []/\TellIn F h0 h' i s a (qO s t at_):=by
 have hex:=TellIn.ex g (qO s t at_)
 have n:=g
 obtain ⟨k1,k2,O,p,x,y,k3,k4,k5,k6⟩:=n
 have G:∀M,(h++M)[i]? =some (.box 138 (xZ s a p x y)):=λM=>zb k3
 cases c:t.open_ with
 | none=>
   rw[c] at k6
   have k6:p= .v (.pointer none):=k6
   subst k6
   have d:qO s t at_=t:=by simp only[qO,c]
   rw[d] at hex⊢
   refine zf Tryz.f69 [] 28 rfl rfl rfl rfl rfl rfl (by decide) (hex) λB=>?_
   simp only[go_sem,G,k3]
   exact ⟨.tup [],by simp only[go_sem],.inl ⟨rfl,g⟩⟩
 | some q=>
   obtain ⟨e,os⟩:=q
   rw[c] at k6
   obtain ⟨j,o,P,rfl,u,V⟩:=k6
   have d:qO s t at_=if at_>wr (e.at_+s.cap) then vN s (xL t e 1) e os (wr (e.at_+s.cap)) else t:=by simp only[qO,c]
   simp only[szT,c,szO] at C
   refine zf Tryz.f69 [] 28 rfl rfl rfl rfl rfl rfl (by decide) (hex) λB=>?_
   simp only[go_sem,k3,zL]
   refine zd (c90 h i j s a x y o e k3 u) ?_
   rintro _ A ⟨rfl,m⟩
   subst m
   simp only[go_sem]
   refine ways (λk=>?_) (λk=>?_)
   ·have b:at_>wr (e.at_+s.cap):=of_decide_eq_true k
    rw[if_pos b] at d
    simp only[go_sem,k3,u]
    refine zd (c85 F h0 A i s a t e 1 g (by omega)) ?_
    rintro _ K ⟨rfl,q⟩
    have J:=q
    obtain ⟨Q,T,U,N,x',y',I,R,S,w⟩:=J
    have f:(xL t e 1).open_=some (e,os):=c
    rw[f] at w
    obtain ⟨H,o',z,rfl,l,L⟩:=w
    simp only[go_sem]
    refine zd (c90 K i H s a x' y' o' e I l) ?_
    rintro _ D ⟨rfl,m⟩
    subst m
    simp only[go_sem]
    refine zd (c86 F h0 _ i s a _ e os _ q f (by simp only[xL];omega)) ?_
    rintro _ D ⟨rfl,E⟩
    simp only[go_sem]
    exact ⟨.tup [],by simp only[go_sem],.inl ⟨rfl,by rw[d];exact E⟩⟩
   ·have b:¬ at_>wr (e.at_+s.cap):=of_decide_eq_false k
    rw[if_neg b] at d
    rw[d]
    simp only[go_sem]
    exact ⟨.tup [],by simp only[go_sem],.inl ⟨rfl,g⟩⟩
theorem c56 (F:List (Nat × List AV)) (h0 h:List Ob) (i:Nat) (s:Setup) (a:SA) (t:TellS) (e:Ev) (ht:TellIn F h0 h i s a t) (hl:szT t+8<1099511627776):
  ACalls Tryz.prog 68 [.ptr i 0,evV e] h λr h'=>r= .tup []/\TellIn F h0 h' i s a (Zz s t e):=by
 have hex:=TellIn.ex ht (Zz s t e)
 obtain ⟨u,V⟩:∃u,u=qO s t e.at_:=⟨_,rfl⟩
 have δ:=Qw (s:=s) (t:=t) (at_:=e.at_)
 rw[<-V] at δ
 unfold Zz at hex⊢
 rw[<-V] at hex⊢
 refine zf Tryz.f68 [] 69 rfl rfl rfl rfl rfl rfl (by decide) (hex) λB=>?_
 have β:∀M,(h++ .box 75 (evC e)::M)[h.length]? =some (.box 75 (evC e)):=λM=>by rw[zm rfl];rfl
 simp only[go_sem,β]
 refine zd (c58 ((h.length,evC e)::F) h0 _ i s a t e.at_ (ht.keep e) (by omega)) ?_
 rintro _ b ⟨rfl,q⟩
 rw[<-V] at q
 have l:b[h.length]? =some (.box 75 (evC e)):=q.kept _ List.mem_cons_self
 have C:∀M,(b++M)[h.length]? =some (.box 75 (evC e)):=λM=>zb l
 have q':=q
 obtain ⟨k1,k2,kf,p,x,y,k3,k4,k5,k6⟩:=q'
 have W:∀M,(b++M)[i]? =some (.box 138 (xZ s a p x y)):=λM=>zb k3
 have hs:∀M o,(b++M).set i o=b.set i o++M:=λM o=>z6 k3
 have E:Kept F b:=λz S=>kf z (List.mem_cons_of_mem _ S)
 have K:=k1.len
 simp only[go_sem,l]
 refine ways (λn=>?_) (λn=>?_)
 ·have n:e.kind=1:=by simpa using n
  rw[if_pos n]
  cases d:u.open_ with
  | none=>
    rw[d] at k6
    have k6:p= .v (.pointer none):=k6
    subst k6
    simp only[go_sem,l,k3,W,hs,C]
    exact ⟨.tup [],by simp only[go_sem],.inl ⟨rfl,(k1.set k2 rfl).app (zj rfl),k2,(E.set_box k3 (by decide) _).app _,_,_,_,zb (zh k3),(k4.set_box k3 _).app _,(k5.set_box k3 _).app _,b.length,_,K,rfl,by rw[zm (by simp)];rfl,.inl ⟨rfl,rfl⟩⟩⟩
  | some z=>
    obtain ⟨f,os⟩:=z
    rw[d] at k6
    obtain ⟨j,o,J,rfl,c,j4⟩:=k6
    have g:szT u=u.segs.length+u.flags.length+(os.length+1):=by simp only[szT,d,szO]
    simp only[go_sem,k3,c]
    refine zd (c85 _ h0 b i s a u f 2 q (by omega)) ?_
    rintro _ O ⟨rfl,H⟩
    have X:O[h.length]? =some (.box 75 (evC e)):=H.kept _ List.mem_cons_self
    simp only[go_sem,X]
    refine zd (c86 _ h0 O i s a _ f os e.at_ H d (by simp only[xL];omega)) ?_
    rintro _ G ⟨rfl,q3⟩
    have Y:G[h.length]? =some (.box 75 (evC e)):=q3.kept _ List.mem_cons_self
    obtain ⟨m1,m2,mf,p',x',y',I,m4,m5,m6⟩:=q3
    have w:∀M,(G++M)[i]? =some (.box 138 (xZ s a p' x' y')):=λM=>zb I
    have D:∀M o,(G++M).set i o=G.set i o++M:=λM o=>z6 I
    have Z:Kept F G:=λz S=>mf z (List.mem_cons_of_mem _ S)
    simp only[go_sem,Y,w,D]
    exact ⟨.tup [],by simp only[go_sem],.inl ⟨rfl,(m1.set m2 rfl).app (zj rfl),m2,(Z.set_box I (by decide) _).app _,_,_,_,zb (zh I),(m4.set_box I _).app _,(m5.set_box I _).app _,G.length,_,m1.len,rfl,by rw[zm (by simp)];rfl,.inl ⟨rfl,rfl⟩⟩⟩
 ·have n:¬ e.kind=1:=by simpa using n
  rw[if_neg n]
  cases d:u.open_ with
  | none=>
    rw[d] at k6
    have k6:p= .v (.pointer none):=k6
    subst k6
    have g:szT u=u.segs.length+u.flags.length+0:=by simp only[szT,d,szO]
    simp only[go_sem,l,k3]
    refine zd (c85 _ h0 b i s a u e 3 q (by omega)) ?_
    rintro _ O ⟨rfl,H⟩
    simp only[go_sem]
    exact ⟨.tup [],by simp only[go_sem],.inl ⟨rfl,H.drop⟩⟩
  | some z=>
    obtain ⟨f,os⟩:=z
    rw[d] at k6
    obtain ⟨j,o,J,rfl,c,j4⟩:=k6
    have g:szT u=u.segs.length+u.flags.length+(os.length+1):=by simp only[szT,d,szO]
    simp only[go_sem,k3,c,l]
    refine ways (λA=>?_) (λA=>?_)
    ·have A:e.kind=2:=by simpa using A
     simp only[go_sem,l]
     refine zd (c86 _ h0 b i s a u f os e.at_ q d (by omega)) ?_
     rintro _ O ⟨rfl,H⟩
     simp only[go_sem]
     exact ⟨.tup [],by simp only[go_sem],.inl ⟨rfl,by simp only[if_pos A];exact H.drop⟩⟩
    ·have A:¬ e.kind=2:=by simpa using A
     simp only[if_neg A]
     have L:∀M,(b++M)[j]? =some (.box 236 (W0 f o)):=λM=>zb c
     have N:∀M o,(b++M).set j o=b.set j o++M:=λM o=>z6 c
     have d1:=jW c k3 (by decide)
     rcases j4 with ⟨rfl,hn⟩ | ⟨id,st,r1,rfl,k⟩
     ·simp only[go_sem]
      refine zp rfl [.res] 1 [(0,0,[]),(1,0,[]),(2,0,[]),(4,0,[]),(5,0,[]),(6,0,[]),(3,0,[]),(7,0,[]),(8,0,[]),(9,0,[]),(10,0,[]),(11,0,[]),(12,0,[]),(13,0,[3]),(14,0,[]),(15,0,[]),(16,0,[])] rfl (by decide) (by decide) ?_
      simp only[go_sem,l,C,k3,c,W,hs,L,N]
      refine ⟨.tup [],by simp only[go_sem],.inl ⟨rfl,(k1.set J rfl).app (zg rfl (zj rfl)),k2,(E.set_box c (by decide) _).app _,.ptr j 0,x,y,zb (by rw[List.getElem?_set_ne d1];exact k3),(k4.set_box c _).app _,(k5.set_box c _).app _,j,.tl (b.length+1) 0,J,rfl,zb (zh c),.inr ⟨b.length+1,0,by omega,rfl,?_⟩⟩⟩
      rw[zl (by simp),List.map_append,hn]
      rfl
     ·have hid:∀M,(b++M)[id]? =some (.row 75 11 (os.map evC) st):=λM=>zb k
      have D:∀M o,(b++M).set id o=b.set id o++M:=λM o=>z6 k
      have m:∀ {j u:Nat} {cs:List AV},b[j]? =some (.box u cs)->∀o,(b.set id o)[j]? =some (.box u cs):=λL o=>by
       rw[List.getElem?_set_ne (λq=>by rw[q,L] at k;cases k)];exact L
      have P:∀M o,(b.set id o++M)[j]? =_:=λM o=>zb (m c o)
      have w:∀M o,(b.set id o++M)[i]? =_:=λM o=>zb (m k3 o)
      have U:∀M o R,(b.set id o++M).set j R=(b.set id o).set j R++M:=λM o R=>z6 (m c o)
      have Q:∀M o,(b.set id o++M)[h.length]? =_:=λM o=>zb (m l o)
      have T:j≠id:=λq=>by rw[q,k] at c;cases c
      have g:szT u=u.segs.length+u.flags.length+(os.length+1):=by simp only[szT,d,szO]
      have γ:((os.map evC).length+1)*89<=140737488355328:=by rw[List.length_map];omega
      simp only[go_sem]
      refine zp rfl [.res] 1 [(0,0,[]),(1,0,[]),(2,0,[]),(4,0,[]),(5,0,[]),(6,0,[]),(3,0,[]),(7,0,[]),(8,0,[]),(9,0,[]),(10,0,[]),(11,0,[]),(12,0,[]),(13,0,[3]),(14,0,[]),(15,0,[]),(16,0,[])] rfl (by decide) (by decide) ?_
      simp only[go_sem,l,C,k3,c,W,hs,L,N,hid,D,P,w,U,Q,γ]
      refine ⟨.tup [],by simp only[go_sem],.inl ⟨rfl,((k1.set r1 rfl).set J rfl).app (zj rfl),k2,((E.set_row k _).set_box (m c _) (by decide) _).app _,.ptr j 0,x,y,zb (by rw[List.getElem?_set_ne d1];exact m k3 _),((k4.set_row k (by decide) _).set_box (m c _) _).app _,((k5.set_row k (by decide) _).set_box (m c _) _).app _,j,.tl id (st+1),J,rfl,zb (zh (m c _)),.inr ⟨id,st+1,r1,rfl,zb ?_⟩⟩⟩
      rw[List.getElem?_set_ne T,zh k,List.map_append]
      rfl
set_option maxRecDepth 100000
def ZO (s:Setup) (w:Int) (e:Ev):Bool:=(e.worker==w && e.kind != 7) && yR s e
def wI (s:Setup) (w:Int) (t:TellS) (e:Ev):TellS:=if ZO s w e then Zz s t e else t
def goP (s:Setup) (w:Int) (l:List Ev):TellS:=l.foldl (wI s w) ⟨none,[],[]⟩
def zR (s:Setup) (l:List Ev) (w:Int):List Seg × List Flg:=if zE s then ((qO s (goP s w (zx l)) 32054400).segs,(qO s (goP s w (zx l)) 32054400).flags) else ([],[])
theorem kOa {s:Setup} {w:Int} {t:TellS} {e:Ev}:szT (wI s w t e)<=szT t+3:=by
 unfold wI
 split
 ·exact kNa
 ·omega
theorem zHa {s:Setup} {w:Int} (l:List Ev):∀ {t:TellS},szT (l.foldl (wI s w) t)<=szT t+3*l.length:=by
 induction l with
 | nil=>intro t;simp
 | cons x l a=>
   intro t
   rw[List.foldl_cons]
   have b:=a (t:=wI s w t x)
   have c:=kOa (s:=s) (w:=w) (t:=t) (e:=x)
   rw[List.length_cons]
   omega
def New (h:List Ob) (e:Nat) (x:AV) (rows:List (List AV)) (L:List Ob):Prop:=∀a:List Ob,a.length=h.length->SlOf (a++L) x e rows
theorem OwnS.new {h0 h L:List Ob} {ty e:Nat} {x:AV} {rows:List (List AV)} (k:OwnS h0 (h++L) ty e x rows) (c:h.length<=h0.length):New h e x rows L:=λb a=>by
 rcases k with ⟨rfl,rfl⟩ | ⟨id,st,k1,rfl,k3⟩
 ·exact ⟨rfl,λh=>absurd rfl h⟩
 ·have:(b++L)[id]? =some (.row ty e rows st):=by
   rw[List.getElem?_append_right (by omega)] at k3⊢
   rw[a]
   exact k3
  refine ⟨?_,λ_=>?_⟩
  ·rw[zP,this,xK,if_pos rfl]
  ·rw[qR,this,vo]
theorem c21 (h:List Ob) (s:Setup) (a:SA) (k:SIn h s a) (f:SFit s) (x:AV) (l:List Ev) (w:Int) (hx:SlOf h x 11 (l.map evC)) (hl:l.length<1048576):
  ACalls Tryz.prog 21 [qj s a,x,i64 w] h λr h'=>∃L y z,h'=h++L/\NoRes L/\r= .tup [y,z]/\New h 5 y ((zR s l w).1.map xf) L/\New h 2 z ((zR s l w).2.map xP) L:=by
 have hex:∃r h',(∃L y z,h'=h++L/\NoRes L/\r=AV.tup [y,z]/\New h 5 y ((zR s l w).1.map xf) L/\New h 2 z ((zR s l w).2.map xP) L)/\ResK h h':=
  ⟨_,_,⟨[],.sl 5 _,.sl 2 _,rfl,jN,rfl,λ_ _=>⟨rfl,λ_=>rfl⟩,λ_ _=>⟨rfl,λ_=>rfl⟩⟩,zW⟩
 refine zf Tryz.f21 [.tmp 6,.tmp 7] 55 rfl rfl rfl rfl rfl rfl (by decide) (hex) λB=>?_
 simp only[go_sem,k.w.one,k.e.one,k.c.one,k.g.one,k.r.one,k.t.one]
 refine zd (c16 _ s a (k.app _) f) ?_
 rintro _ h1 ⟨rfl,e2⟩
 subst e2
 simp only[go_sem]
 refine ways (λe=>?_) (λe=>?_)
 ·have R:zE s=false:=by simpa using e
  simp only[go_sem]
  refine ⟨.tup [.v (.slice none 0 0),.v (.slice none 0 0)],by simp only[go_sem],.inl ⟨_,_,_,rfl,zj rfl,rfl,?_,?_⟩⟩
  ·rw[zR,R];exact λ_ _=>⟨rfl,λh=>absurd rfl h⟩
  ·rw[zR,R];exact λ_ _=>⟨rfl,λh=>absurd rfl h⟩
 ·have R:zE s=true:=by simpa using e
  simp only[Xk,VJ]
  rw[qZ,qZ,Qj,qZ]
  have N:=qF l
  have k0:SIn (h++[.box 30 (zr s a)]) s a:=k.app _
  have hs:zR s l w=((qO s (goP s w (zx l)) 32054400).segs,(qO s (goP s w (zx l)) 32054400).flags):=by rw[zR,R];rfl
  obtain ⟨h0,j⟩:∃h0,h0=h++[.box 30 (zr s a)]:=⟨_,rfl⟩
  have Y:h0.length=h.length+1:=by rw[j];simp
  refine w8 (λT h'=>TellIn [] h0 h' (h.length+1) s a ⟨none,[],[]⟩/\T 2=i64 w/\T 3= .ptr h.length 0/\T 8= .ptr (h.length+1) 0/\T 9= .fn (.func 68) [.ptr (h.length+1) 0] []/\T 22=i64 l.length/\T 23=i64 0/\((zx l=[]/\T 21= .v (.slice none 0 0))∨(∃id st,T 21= .tl id st/\h'[id]? =some (zY (zx l) st)/\h0.length<=id))) ?_ ?_
  ·simp only[go_sem,k.w.one,k.e.one,k.c.one,k.g.one,k.r.one,k.t.one]
   have C:TellIn [] h0 (h0++[.box 138 (xZ s a (.v (.pointer none)) (.v (.slice none 0 0)) (.v (.slice none 0 0)))]) (h.length+1) s a ⟨none,[],[]⟩:=
    ⟨Pre.refl.app (zj rfl),by omega,(λ_ h=>by cases h),_,_,_,by rw[<-Y,zm rfl];rfl,.inl ⟨rfl,rfl⟩,.inl ⟨rfl,rfl⟩,rfl⟩
   rw[j,List.append_assoc] at C
   refine zd (c57 _ x l (hx.app _) (by omega)) ?_
   rintro r X (⟨rfl,rfl,rfl⟩ | ⟨rfl,rfl⟩)
   ·simp only[go_sem,List.length_nil]
    rw[j]
    exact ⟨C,.inl rfl⟩
   ·have hg:∀M,(h++ .box 30 (zr s a):: .box 138 (xZ s a (.v (.pointer none)) (.v (.slice none 0 0)) (.v (.slice none 0 0)))::zY (zx l) 1::M)[h.length+2]? =some (zY (zx l) 1):=λM=>by rw[zl rfl];rfl
    simp only[go_sem,hg,List.length_map,N]
    have I:=C.app (M:=[zY (zx l) 1]) (zj rfl)
    rw[List.append_assoc, <-j] at I
    exact ⟨I,.inr ⟨_,_,rfl,by rw[zl rfl];rfl,by omega⟩⟩
  ·rintro T h' ⟨o,t2,t3,t8,t9,t22,b,P⟩
   simp only[go_sem]
   refine zFa (λT h'=>∃y,(∀h4:List Ob,SlOf h4 y 11 ((zx l).map evC))/\TellIn [] h0 h' (h.length+1) s a ⟨none,[],[]⟩/\T 2=i64 w/\T 3= .ptr h.length 0/\T 8= .ptr (h.length+1) 0/\T 9= .fn (.func 68) [.ptr (h.length+1) 0] []/\T 21=y/\T 22=i64 l.length/\T 23=i64 0) (λK=>?_) ?_
   ·rcases P with ⟨hn,d⟩ | ⟨id,st,d,hr,U⟩
    ·exact K _ _ ⟨_,λh4=>by rw[hn];exact ⟨rfl,λh=>absurd rfl h⟩,o,t2,t3,t8,t9,d,t22,b⟩
    ·exact Y9 21 d hr (K _ _ ⟨.sl 11 ((zx l).map evC),λh4=>⟨rfl,λ_=>rfl⟩,o.gone hr U rfl,by simp only[go_sem,t2],by simp only[go_sem,t3],by simp only[go_sem,t8],by simp only[go_sem,t9],by simp only[go_sem],by simp only[go_sem,t22],by simp only[go_sem,b]⟩)
   clear o t2 t3 t8 t9 t22 b P
   rintro T h' ⟨y,P,o,t2,t3,t8,t9,d,t22,b⟩
   refine zk (by decide) (λm T h'=>∃k:Nat,k<=l.length/\TellIn [] h0 h' (h.length+1) s a (goP s w ((zx l).take k))/\T 2=i64 w/\T 3= .ptr h.length 0/\T 8= .ptr (h.length+1) 0/\T 9= .fn (.func 68) [.ptr (h.length+1) 0] []/\T 21=y/\T 22=i64 l.length/\T 23=i64 k/\m=l.length - k) l.length
    ⟨0,by omega,o,t2,t3,t8,t9,d,t22,b,rfl⟩ ?_
   clear o t2 t3 t8 t9 d t22 b
   rintro m T h' ⟨k,hk,o,t2,t3,t8,t9,d,t22,b,rfl⟩
   simp only[go_sem,t22,b]
   have Q:szT (goP s w ((zx l).take k))<=szT ⟨none,[],[]⟩+3*((zx l).take k).length:=zHa ((zx l).take k)
   rw[List.length_take] at Q
   have δ:szT ⟨none,[],[]⟩=0:=rfl
   have S:h'[h.length]? =some (.box 30 (zr s a)):=by
    obtain ⟨L,hL,_⟩:=o.pre
    rw[hL,j]
    exact zb (by simp)
   refine ways (λe=>?_) (λe=>?_)
   ·have φ:=dlt e
    have u:k<(zx l).length:=by omega
    have G:=(P h').at (i:=k) (by simpa using u)
    have D:=(P h').rows
    have n:((zx l).map evC)[k]? =some (evC (zx l)[k]):=qH (List.getElem?_eq_getElem u)
    have E:(k:Int)<(zx l).length:=by omega
    obtain ⟨ev,O⟩:∃ev,ev=(zx l)[k]:=⟨_,rfl⟩
    rw[<-O] at n
    have p:goP s w ((zx l).take (k+1))=wI s w (goP s w ((zx l).take k)) ev:=by
     rw[goP, <-List.take_append_getElem u,List.foldl_append,O]
     rfl
    have F:∀M,(h'++M)[h.length]? =some (.box 30 (zr s a)):=λM=>zb S
    have hA:List.length (evC ev)=11:=rfl
    have skip:ZO s w ev=false->TellIn [] h0 (h'++[.box 75 (evC ev)]) (h.length+1) s a (goP s w ((zx l).take (k+1))):=λq=>by
     rw[p,wI,q]
     exact o.app (zj rfl)
    have fin:k+1<=l.length:=by omega
    by_cases q1:ev.worker=w
    ·have A:(ev.worker==w)=true:=by simpa using q1
     by_cases q2:ev.kind=7
     ·have H:(ev.kind != 7)=false:=by simpa using q2
      simp only[go_sem,d,b,G,D,n,E,List.length_map,Int.toNat_natCast,Int.natCast_nonneg,t2,F,A,H,zL]
      exact ⟨l.length - (k+1),by omega,k+1,fin,skip (by simp only[ZO,A,H];rfl),t3,t8,t9,t22,zw (by omega) rfl,rfl⟩
     ·have H:(ev.kind != 7)=true:=by simpa using q2
      simp only[go_sem,t3,d,b,G,D,n,E,List.length_map,Int.toNat_natCast,Int.natCast_nonneg,t2,F,A,H,zL]
      refine zd (c14 _ s a ((o.app (zj rfl)).pre.sin (j▸k0)) ev) ?_
      rintro _ X ⟨rfl,e3⟩
      subst e3
      simp only[go_sem]
      refine ways (λe4=>?_) (λe4=>?_)
      ·have J:ZO s w ev=true:=by simp only[ZO,A,H];exact e4
       simp only[go_sem,t9]
       refine zd (c56 [] h0 _ _ s a _ ev (o.app (zj rfl)) (by omega)) ?_
       rintro _ X ⟨rfl,q⟩
       simp only[go_sem,b]
       refine ⟨l.length - (k+1),by omega,k+1,fin,?_,t2,t3,t8,t9,d,t22,zw (by omega) rfl,rfl⟩
       rw[p,wI,J]
       exact q
      ·simp only[go_sem,b]
       exact ⟨l.length - (k+1),by omega,k+1,fin,skip (by simp only[ZO,A,H];exact e4),t2,t3,t8,t9,d,t22,zw (by omega) rfl,rfl⟩
    ·have A:(ev.worker==w)=false:=by simpa using q1
     simp only[go_sem,d,b,G,D,n,E,List.length_map,Int.toNat_natCast,Int.natCast_nonneg,t2,F,A,zL]
     exact ⟨l.length - (k+1),by omega,k+1,fin,skip (by simp only[ZO,A];rfl),t3,t8,t9,t22,zw (by omega) rfl,rfl⟩
   ·have ξ:=jk e
    have V:k=(zx l).length:=by omega
    subst V
    rw[List.take_length] at o Q
    simp only[go_sem,t8]
    refine zd (c58 [] h0 h' _ s a _ 32054400 o (by omega)) ?_
    rintro _ X ⟨rfl,q⟩
    obtain ⟨m1,m2,mf,p',x',y',Z,m4,m5,m6⟩:=q
    obtain ⟨L,hL,hN⟩:=m1
    subst hL
    rw[j,List.append_assoc] at Z m4 m5
    rw[j,List.append_assoc]
    rw[zl rfl] at Z
    have W:L[0]? =some (.box 138 (xZ s a p' x' y')):=Z
    simp only[go_sem]
    refine zp rfl [] 0 [(0,0,[]),(1,0,[]),(2,0,[]),(4,0,[]),(5,0,[]),(6,0,[]),(3,0,[]),(8,0,[]),(7,0,[]),(9,0,[])] rfl (by decide) (by decide) ?_
    simp only[go_sem,t8,W]
    refine ⟨.tup [x',y'],by simp only[go_sem],.inl ⟨_,_,_,rfl,zg rfl hN,rfl,?_,?_⟩⟩
    ·rw[hs];exact m4.new (by rw[List.length_append];omega)
    ·rw[hs];exact m5.new (by rw[List.length_append];omega)
end Go.Proofs.YtigdlmpjijhpaaaGreat.Ax
