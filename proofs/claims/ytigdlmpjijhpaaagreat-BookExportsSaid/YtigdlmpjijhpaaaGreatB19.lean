import Derived.Test.YtigdlmpjijhpaaaGreatBA
import Derived.Test.YtigdlmpjijhpaaaGreatB18
import Derived.Test.YtigdlmpjijhpaaaGreatB14
set_option linter.all false
namespace Go.Proofs.YtigdlmpjijhpaaaGreat.Ax
open Go Go.Proofs
set_option maxRecDepth 100000
theorem c58(F:List (Nat × List AV))(h0 h:List Ob)(i:Nat)(s:Setup)(a:SA)(t:TellS)(at_:Int)(g:TellIn F h0 h i s a t)(L:szT t+2<1099511627776):
  ACalls Tryz.prog 69 [.ptr i 0,i64 at_] h λr h'=>r= .tup []/\TellIn F h0 h' i s a (jO s t at_):=by
 have hex:=TellIn.ex g (jO s t at_)
 have l:=g
 obtain⟨k1,k2,P,p,x,y,k3,k4,k5,k6⟩:=l
 have K:∀M,(h++M)[i]? =some (.box 138 (wX s a p x y)):=λM=>zf k3
 cases d:t.open_ with
 | none=>
   rw[d] at k6
   have k6:p= .v (.pointer none):=k6
   subst k6
   have c:jO s t at_=t:=by simp only[jO,d]
   rw[c] at hex⊢
   refine zj Tryz.f69 [] 28 rfl rfl rfl rfl rfl rfl (by decide) (hex) λB=>?_
   simp only[go_sem,K,k3]
   exact⟨.tup [],by simp only[go_sem],.inl ⟨rfl,g⟩⟩
 | some q=>
   obtain⟨e,os⟩:=q
   rw[d] at k6
   obtain⟨j,o,N,rfl,u,V⟩:=k6
   have c:jO s t at_=if at_>wr (e.at_+s.cap) then ZA s (wh t e 1) e os (wr (e.at_+s.cap)) else t:=by simp only[jO,d]
   simp only[szT,d,szO] at L
   refine zj Tryz.f69 [] 28 rfl rfl rfl rfl rfl rfl (by decide) (hex) λB=>?_
   simp only[go_sem,k3,qD]
   refine zg (c90 h i j s a x y o e k3 u) ?_
   rintro _ z ⟨rfl,k⟩
   subst k
   simp only[go_sem]
   refine ways (λm=>?_) (λm=>?_)
   ·have b:at_>wr (e.at_+s.cap):=of_decide_eq_true m
    rw[if_pos b] at c
    simp only[go_sem,k3,u]
    refine zg (c85 F h0 z i s a t e 1 g (by omega)) ?_
    rintro _ E ⟨rfl,q⟩
    have J:=q
    obtain⟨R,Q,T,S,x',y',I,U,O,w⟩:=J
    have f:(wh t e 1).open_=some (e,os):=d
    rw[f] at w
    obtain⟨D,o',H,rfl,n,A⟩:=w
    simp only[go_sem]
    refine zg (c90 E i D s a x' y' o' e I n) ?_
    rintro _ C ⟨rfl,k⟩
    subst k
    simp only[go_sem]
    refine zg (c86 F h0 _ i s a _ e os _ q f (by simp only[wh];omega)) ?_
    rintro _ C ⟨rfl,G⟩
    simp only[go_sem]
    exact⟨.tup [],by simp only[go_sem],.inl ⟨rfl,by rw[c];exact G⟩⟩
   ·have b:¬ at_>wr (e.at_+s.cap):=of_decide_eq_false m
    rw[if_neg b] at c
    rw[c]
    simp only[go_sem]
    exact⟨.tup [],by simp only[go_sem],.inl ⟨rfl,g⟩⟩
theorem c56(F:List (Nat × List AV))(h0 h:List Ob)(i:Nat)(s:Setup)(a:SA)(t:TellS)(e:Ev)(ht:TellIn F h0 h i s a t)(hl:szT t+8<1099511627776):
  ACalls Tryz.prog 68 [.ptr i 0,evV e] h λr h'=>r= .tup []/\TellIn F h0 h' i s a (yK s t e):=by
 have hex:=TellIn.ex ht (yK s t e)
 obtain⟨u,hu⟩:∃u,u=jO s t e.at_:=⟨_,rfl⟩
 have T:=KN (s:=s) (t:=t) (at_:=e.at_)
 rw[<-hu] at T
 unfold yK at hex⊢
 rw[<-hu] at hex⊢
 refine zj Tryz.f68 [] 69 rfl rfl rfl rfl rfl rfl (by decide) (hex) λB=>?_
 have Q:∀M,(h++ .box 75 (evC e)::M)[h.length]? =some (.box 75 (evC e)):=λM=>by rw[zM rfl];rfl
 simp only[go_sem,Q]
 refine zg (c58 ((h.length,evC e)::F) h0 _ i s a t e.at_ (ht.keep e) (by omega)) ?_
 rintro _ b ⟨rfl,q⟩
 rw[<-hu] at q
 have m:b[h.length]? =some (.box 75 (evC e)):=q.kept _ List.mem_cons_self
 have A:∀M,(b++M)[h.length]? =some (.box 75 (evC e)):=λM=>zf m
 have q':=q
 obtain⟨k1,k2,kf,p,x,y,k3,k4,k5,k6⟩:=q'
 have hb:∀M,(b++M)[i]? =some (.box 138 (wX s a p x y)):=λM=>zf k3
 have U:∀M o,(b++M).set i o=b.set i o++M:=λM o=>jh k3
 have w:Kept F b:=λz R=>kf z (List.mem_cons_of_mem _ R)
 have K:=k1.len
 simp only[go_sem,m]
 refine ways (λC=>?_) (λC=>?_)
 ·have C:e.kind=1:=by simpa using C
  rw[if_pos C]
  cases g:u.open_ with
  | none=>
    rw[g] at k6
    have k6:p= .v (.pointer none):=k6
    subst k6
    simp only[go_sem,m,k3,hb,U,A]
    exact⟨.tup [],by simp only[go_sem],.inl ⟨rfl,(k1.set k2 rfl).app (zG rfl),k2,(w.set_box k3 (by decide) _).app _,_,_,_,zf (zq k3),(k4.set_box k3 _).app _,(k5.set_box k3 _).app _,b.length,_,K,rfl,by rw[zM (by simp)];rfl,.inl ⟨rfl,rfl⟩⟩⟩
  | some z=>
    obtain⟨f,os⟩:=z
    rw[g] at k6
    obtain⟨j,o,J,rfl,c,j4⟩:=k6
    have d:szT u=u.segs.length+u.flags.length+(os.length+1):=by simp only[szT,g,szO]
    simp only[go_sem,k3,c]
    refine zg (c85 _ h0 b i s a u f 2 q (by omega)) ?_
    rintro _ O ⟨rfl,H⟩
    have S:O[h.length]? =some (.box 75 (evC e)):=H.kept _ List.mem_cons_self
    simp only[go_sem,S]
    refine zg (c86 _ h0 O i s a _ f os e.at_ H g (by simp only[wh];omega)) ?_
    rintro _ G ⟨rfl,q3⟩
    have P:G[h.length]? =some (.box 75 (evC e)):=q3.kept _ List.mem_cons_self
    obtain⟨m1,m2,mf,p',x',y',I,m4,m5,m6⟩:=q3
    have n:∀M,(G++M)[i]? =some (.box 138 (wX s a p' x' y')):=λM=>zf I
    have E:∀M o,(G++M).set i o=G.set i o++M:=λM o=>jh I
    have X:Kept F G:=λz R=>mf z (List.mem_cons_of_mem _ R)
    simp only[go_sem,P,n,E]
    exact⟨.tup [],by simp only[go_sem],.inl ⟨rfl,(m1.set m2 rfl).app (zG rfl),m2,(X.set_box I (by decide) _).app _,_,_,_,zf (zq I),(m4.set_box I _).app _,(m5.set_box I _).app _,G.length,_,m1.len,rfl,by rw[zM (by simp)];rfl,.inl ⟨rfl,rfl⟩⟩⟩
 ·have C:¬ e.kind=1:=by simpa using C
  rw[if_neg C]
  cases g:u.open_ with
  | none=>
    rw[g] at k6
    have k6:p= .v (.pointer none):=k6
    subst k6
    have d:szT u=u.segs.length+u.flags.length+0:=by simp only[szT,g,szO]
    simp only[go_sem,m,k3]
    refine zg (c85 _ h0 b i s a u e 3 q (by omega)) ?_
    rintro _ O ⟨rfl,H⟩
    simp only[go_sem]
    exact⟨.tup [],by simp only[go_sem],.inl ⟨rfl,H.drop⟩⟩
  | some z=>
    obtain⟨f,os⟩:=z
    rw[g] at k6
    obtain⟨j,o,J,rfl,c,j4⟩:=k6
    have d:szT u=u.segs.length+u.flags.length+(os.length+1):=by simp only[szT,g,szO]
    simp only[go_sem,k3,c,m]
    refine ways (λD=>?_) (λD=>?_)
    ·have D:e.kind=2:=by simpa using D
     simp only[go_sem,m]
     refine zg (c86 _ h0 b i s a u f os e.at_ q g (by omega)) ?_
     rintro _ O ⟨rfl,H⟩
     simp only[go_sem]
     exact⟨.tup [],by simp only[go_sem],.inl ⟨rfl,by simp only[if_pos D];exact H.drop⟩⟩
    ·have D:¬ e.kind=2:=by simpa using D
     simp only[if_neg D]
     have N:∀M,(b++M)[j]? =some (.box 236 (x0a f o)):=λM=>zf c
     have L:∀M o,(b++M).set j o=b.set j o++M:=λM o=>jh c
     have d1:=vz c k3 (by decide)
     rcases j4 with⟨rfl,hn⟩|⟨id,st,r1,rfl,l⟩
     ·simp only[go_sem]
      refine zV rfl [.res] 1 [(0,0,[]),(1,0,[]),(2,0,[]),(4,0,[]),(5,0,[]),(6,0,[]),(3,0,[]),(7,0,[]),(8,0,[]),(9,0,[]),(10,0,[]),(11,0,[]),(12,0,[]),(13,0,[3]),(14,0,[]),(15,0,[]),(16,0,[])] rfl (by decide) (by decide) ?_
      simp only[go_sem,m,A,k3,c,hb,U,N,L]
      refine⟨.tup [],by simp only[go_sem],.inl ⟨rfl,(k1.set J rfl).app (zr rfl (zG rfl)),k2,(w.set_box c (by decide) _).app _,.ptr j 0,x,y,zf (by rw[zc d1];exact k3),(k4.set_box c _).app _,(k5.set_box c _).app _,j,.tl (b.length+1) 0,J,rfl,zf (zq c),.inr ⟨b.length+1,0,by omega,rfl,?_⟩⟩⟩
      rw[zK (by simp),zy,hn]
      rfl
     ·have hid:∀M,(b++M)[id]? =some (.row 75 11 (os.map evC) st):=λM=>zf l
      have E:∀M o,(b++M).set id o=b.set id o++M:=λM o=>jh l
      have k:∀ {j u:Nat} {cs:List AV},b[j]? =some (.box u cs)->∀o,(b.set id o)[j]? =some (.box u cs):=λN o=>by
       rw[zc (λq=>by rw[q,N] at l;cases l)];exact N
      have α:∀M o,(b.set id o++M)[j]? =_:=λM o=>zf (k c o)
      have n:∀M o,(b.set id o++M)[i]? =_:=λM o=>zf (k k3 o)
      have V:∀M o Z,(b.set id o++M).set j Z=(b.set id o).set j Z++M:=λM o Z=>jh (k c o)
      have Y:∀M o,(b.set id o++M)[h.length]? =_:=λM o=>zf (k m o)
      have β:j≠id:=λq=>by rw[q,l] at c;cases c
      have d:szT u=u.segs.length+u.flags.length+(os.length+1):=by simp only[szT,g,szO]
      have W:((os.map evC).length+1)*89<=140737488355328:=by rw[zb];omega
      simp only[go_sem]
      refine zV rfl [.res] 1 [(0,0,[]),(1,0,[]),(2,0,[]),(4,0,[]),(5,0,[]),(6,0,[]),(3,0,[]),(7,0,[]),(8,0,[]),(9,0,[]),(10,0,[]),(11,0,[]),(12,0,[]),(13,0,[3]),(14,0,[]),(15,0,[]),(16,0,[])] rfl (by decide) (by decide) ?_
      simp only[go_sem,m,A,k3,c,hb,U,N,L,hid,E,α,n,V,Y,W]
      refine⟨.tup [],by simp only[go_sem],.inl ⟨rfl,((k1.set r1 rfl).set J rfl).app (zG rfl),k2,((w.set_row l _).set_box (k c _) (by decide) _).app _,.ptr j 0,x,y,zf (by rw[zc d1];exact k k3 _),((k4.set_row l (by decide) _).set_box (k c _) _).app _,((k5.set_row l (by decide) _).set_box (k c _) _).app _,j,.tl id (st+1),J,rfl,zf (zq (k c _)),.inr ⟨id,st+1,r1,rfl,zf ?_⟩⟩⟩
      rw[zc β,zq l,zy]
      rfl
def QO(s:Setup)(w:Int)(e:Ev):Bool:=(e.worker==w && e.kind != 7) && wi s e
def vM(s:Setup)(w:Int)(t:TellS)(e:Ev):TellS:=if QO s w e then yK s t e else t
def goP(s:Setup)(w:Int)(l:List Ev):TellS:=l.foldl (vM s w) ⟨none,[],[]⟩
def qF(s:Setup)(l:List Ev)(w:Int):List Seg × List Flg:=if qv s then((jO s (goP s w (qu l)) 32054400).segs,(jO s (goP s w (qu l)) 32054400).flags) else([],[])
theorem JWa{s:Setup}{w:Int}{t:TellS}{e:Ev}:szT (vM s w t e)<=szT t+3:=by
 unfold vM
 split
 ·exact JVa
 ·omega
theorem v4a{s:Setup}{w:Int}(l:List Ev):∀ {t:TellS},szT (l.foldl (vM s w) t)<=szT t+3*l.length:=by
 induction l with
 | nil=>intro t;simp
 | cons x l a=>
   intro t
   rw[List.foldl_cons]
   have c:=a (t:=vM s w t x)
   have b:=JWa (s:=s) (w:=w) (t:=t) (e:=x)
   rw[List.length_cons]
   omega
def New(h:List Ob)(e:Nat)(x:AV)(rows:List (List AV))(L:List Ob):Prop:=∀a:List Ob,a.length=h.length->SlOf (a++L) x e rows
theorem OwnS.new{h0 h L:List Ob}{ty e:Nat}{x:AV}{rows:List (List AV)}(k:OwnS h0 (h++L) ty e x rows)(c:h.length<=h0.length):New h e x rows L:=λb a=>by
 rcases k with⟨rfl,rfl⟩|⟨id,st,k1,rfl,k3⟩
 ·exact⟨rfl,λh=>absurd rfl h⟩
 ·have:(b++L)[id]? =some (.row ty e rows st):=by
   rw[zQ (by omega)] at k3⊢
   rw[a]
   exact k3
  refine⟨?_,λ_=>?_⟩
  ·rw[qU,this,kQ,if_pos rfl]
  ·rw[jI,this,vT]
theorem c21(h:List Ob)(s:Setup)(a:SA)(k:SIn h s a)(f:SFit s)(x:AV)(l:List Ev)(w:Int)(hx:SlOf h x 11 (l.map evC))(hl:l.length<1048576):
  ACalls Tryz.prog 21 [je s a,x,i64 w] h λr h'=>∃L y z,h'=h++L/\NoRes L/\r= .tup [y,z]/\New h 5 y ((qF s l w).1.map kG) L/\New h 2 z ((qF s l w).2.map xy) L:=by
 have hex:∃r h',(∃L y z,h'=h++L/\NoRes L/\r=AV.tup [y,z]/\New h 5 y ((qF s l w).1.map kG) L/\New h 2 z ((qF s l w).2.map xy) L)/\ResK h h':=
  ⟨_,_,⟨[],.sl 5 _,.sl 2 _,rfl,jf,rfl,λ_ _=>⟨rfl,λ_=>rfl⟩,λ_ _=>⟨rfl,λ_=>rfl⟩⟩,qS⟩
 refine zj Tryz.f21 [.tmp 6,.tmp 7] 55 rfl rfl rfl rfl rfl rfl (by decide) (hex) λB=>?_
 simp only[go_sem,k.w.one,k.e.one,k.c.one,k.g.one,k.r.one,k.t.one]
 refine zg (c16 _ s a (k.app _) f) ?_
 rintro _ h1 ⟨rfl,e2⟩
 subst e2
 simp only[go_sem]
 refine ways (λe=>?_) (λe=>?_)
 ·have Q:qv s=false:=by simpa using e
  simp only[go_sem]
  refine⟨.tup [.v (.slice none 0 0),.v (.slice none 0 0)],by simp only[go_sem],.inl ⟨_,_,_,rfl,zG rfl,rfl,?_,?_⟩⟩
  ·rw[qF,Q];exact λ_ _=>⟨rfl,λh=>absurd rfl h⟩
  ·rw[qF,Q];exact λ_ _=>⟨rfl,λh=>absurd rfl h⟩
 ·have Q:qv s=true:=by simpa using e
  simp only[Yo,jwa]
  rw[xG,xG,Kx,xG]
  have H:=j6 l
  have k0:SIn (h++[.box 30 (qd s a)]) s a:=k.app _
  have hs:qF s l w=((jO s (goP s w (qu l)) 32054400).segs,(jO s (goP s w (qu l)) 32054400).flags):=by rw[qF,Q];rfl
  obtain⟨h0,d⟩:∃h0,h0=h++[.box 30 (qd s a)]:=⟨_,rfl⟩
  have α:h0.length=h.length+1:=by rw[d];simp
  refine QK (λT h'=>TellIn [] h0 h' (h.length+1) s a ⟨none,[],[]⟩/\T 2=i64 w/\T 3= .ptr h.length 0/\T 8= .ptr (h.length+1) 0/\T 9= .fn (.func 68) [.ptr (h.length+1) 0] []/\T 22=i64 l.length/\T 23=i64 0/\((qu l=[]/\T 21= .v (.slice none 0 0))∨(∃id st,T 21= .tl id st/\h'[id]? =some (jg (qu l) st)/\h0.length<=id))) ?_ ?_
  ·simp only[go_sem,k.w.one,k.e.one,k.c.one,k.g.one,k.r.one,k.t.one]
   have F:TellIn [] h0 (h0++[.box 138 (wX s a (.v (.pointer none)) (.v (.slice none 0 0)) (.v (.slice none 0 0)))]) (h.length+1) s a ⟨none,[],[]⟩:=
    ⟨Pre.refl.app (zG rfl),by omega,(λ_ h=>by cases h),_,_,_,by rw[<-α,zM rfl];rfl,.inl ⟨rfl,rfl⟩,.inl ⟨rfl,rfl⟩,rfl⟩
   rw[d,zp] at F
   refine zg (c57 _ x l (hx.app _) (by omega)) ?_
   rintro r S (⟨rfl,rfl,rfl⟩|⟨rfl,rfl⟩)
   ·simp only[go_sem,List.length_nil]
    rw[d]
    exact⟨F,.inl rfl⟩
   ·have hg:∀M,(h++ .box 30 (qd s a):: .box 138 (wX s a (.v (.pointer none)) (.v (.slice none 0 0)) (.v (.slice none 0 0)))::jg (qu l) 1::M)[h.length+2]? =some (jg (qu l) 1):=λM=>by rw[zK rfl];rfl
    simp only[go_sem,hg,zb,H]
    have P:=F.app (M:=[jg (qu l) 1]) (zG rfl)
    rw[zp, <-d] at P
    exact⟨P,.inr ⟨_,_,rfl,by rw[zK rfl];rfl,by omega⟩⟩
  ·rintro T h' ⟨n,t2,t3,t8,t9,t22,t23,O⟩
   simp only[go_sem]
   refine YG (λT h'=>∃y,(∀X:List Ob,SlOf X y 11 ((qu l).map evC))/\TellIn [] h0 h' (h.length+1) s a ⟨none,[],[]⟩/\T 2=i64 w/\T 3= .ptr h.length 0/\T 8= .ptr (h.length+1) 0/\T 9= .fn (.func 68) [.ptr (h.length+1) 0] []/\T 21=y/\T 22=i64 l.length/\T 23=i64 0) (λK=>?_) ?_
   ·rcases O with⟨hn,b⟩|⟨id,st,b,hr,β⟩
    ·exact K _ _ ⟨_,λX=>by rw[hn];exact⟨rfl,λh=>absurd rfl h⟩,n,t2,t3,t8,t9,b,t22,t23⟩
    ·exact vza 21 b hr (K _ _ ⟨.sl 11 ((qu l).map evC),λX=>⟨rfl,λ_=>rfl⟩,n.gone hr β rfl,by simp only[go_sem,t2],by simp only[go_sem,t3],by simp only[go_sem,t8],by simp only[go_sem,t9],by simp only[go_sem],by simp only[go_sem,t22],by simp only[go_sem,t23]⟩)
   clear n t2 t3 t8 t9 t22 t23 O
   rintro T h' ⟨y,O,n,t2,t3,t8,t9,b,t22,t23⟩
   refine zP (by decide) (λm T h'=>∃k:Nat,k<=l.length/\TellIn [] h0 h' (h.length+1) s a (goP s w ((qu l).take k))/\T 2=i64 w/\T 3= .ptr h.length 0/\T 8= .ptr (h.length+1) 0/\T 9= .fn (.func 68) [.ptr (h.length+1) 0] []/\T 21=y/\T 22=i64 l.length/\T 23=i64 k/\m=l.length - k) l.length
    ⟨0,by omega,n,t2,t3,t8,t9,b,t22,t23,rfl⟩ ?_
   clear n t2 t3 t8 t9 b t22 t23
   rintro m T h' ⟨k,hk,n,t2,t3,t8,t9,b,t22,t23,rfl⟩
   simp only[go_sem,t22,t23]
   have J:szT (goP s w ((qu l).take k))<=szT ⟨none,[],[]⟩+3*((qu l).take k).length:=v4a ((qu l).take k)
   rw[qa] at J
   have η:szT ⟨none,[],[]⟩=0:=rfl
   have W:h'[h.length]? =some (.box 30 (qd s a)):=by
    obtain⟨L,V,_⟩:=n.pre
    rw[V,d]
    exact zf (by simp)
   refine ways (λe=>?_) (λe=>?_)
   ·have ο:=dlt e
    have o:k<(qu l).length:=by omega
    have D:=(O h').at (i:=k) (by simpa using o)
    have C:=(O h').rows
    have j:((qu l).map evC)[k]? =some (evC (qu l)[k]):=j9 (zi o)
    have A:(k:Int)<(qu l).length:=by omega
    obtain⟨ev,I⟩:∃ev,ev=(qu l)[k]:=⟨_,rfl⟩
    rw[<-I] at j
    have p:goP s w ((qu l).take (k+1))=vM s w (goP s w ((qu l).take k)) ev:=by
     rw[goP, <-zI o,qY,I]
     rfl
    have E:∀M,(h'++M)[h.length]? =some (.box 30 (qd s a)):=λM=>zf W
    have hA:List.length (evC ev)=11:=rfl
    have skip:QO s w ev=false->TellIn [] h0 (h'++[.box 75 (evC ev)]) (h.length+1) s a (goP s w ((qu l).take (k+1))):=λq=>by
     rw[p,vM,q]
     exact n.app (zG rfl)
    have fin:k+1<=l.length:=by omega
    by_cases q1:ev.worker=w
    ·have u:(ev.worker==w)=true:=by simpa using q1
     by_cases q2:ev.kind=7
     ·have G:(ev.kind != 7)=false:=by simpa using q2
      simp only[go_sem,b,t23,D,C,j,A,zb,Int.toNat_natCast,zh,t2,E,u,G,qD]
      exact⟨l.length - (k+1),by omega,k+1,fin,skip (by simp only[QO,u,G];rfl),t3,t8,t9,t22,qm (by omega) rfl,rfl⟩
     ·have G:(ev.kind != 7)=true:=by simpa using q2
      simp only[go_sem,t3,b,t23,D,C,j,A,zb,Int.toNat_natCast,zh,t2,E,u,G,qD]
      refine zg (c14 _ s a ((n.app (zG rfl)).pre.sin (d▸k0)) ev) ?_
      rintro _ S ⟨rfl,e3⟩
      subst e3
      simp only[go_sem]
      refine ways (λR=>?_) (λR=>?_)
      ·have N:QO s w ev=true:=by simp only[QO,u,G];exact R
       simp only[go_sem,t9]
       refine zg (c56 [] h0 _ _ s a _ ev (n.app (zG rfl)) (by omega)) ?_
       rintro _ S ⟨rfl,q⟩
       simp only[go_sem,t23]
       refine⟨l.length - (k+1),by omega,k+1,fin,?_,t2,t3,t8,t9,b,t22,qm (by omega) rfl,rfl⟩
       rw[p,vM,N]
       exact q
      ·simp only[go_sem,t23]
       exact⟨l.length - (k+1),by omega,k+1,fin,skip (by simp only[QO,u,G];exact R),t2,t3,t8,t9,b,t22,qm (by omega) rfl,rfl⟩
    ·have u:(ev.worker==w)=false:=by simpa using q1
     simp only[go_sem,b,t23,D,C,j,A,zb,Int.toNat_natCast,zh,t2,E,u,qD]
     exact⟨l.length - (k+1),by omega,k+1,fin,skip (by simp only[QO,u];rfl),t3,t8,t9,t22,qm (by omega) rfl,rfl⟩
   ·have τ:=xb e
    have Z:k=(qu l).length:=by omega
    subst Z
    rw[zZ] at n J
    simp only[go_sem,t8]
    refine zg (c58 [] h0 h' _ s a _ 32054400 n (by omega)) ?_
    rintro _ S ⟨rfl,q⟩
    obtain⟨m1,m2,mf,p',x',y',Y,m4,m5,m6⟩:=q
    obtain⟨L,V,hN⟩:=m1
    subst V
    rw[d,zp] at Y m4 m5
    rw[d,zp]
    rw[zK rfl] at Y
    have U:L[0]? =some (.box 138 (wX s a p' x' y')):=Y
    simp only[go_sem]
    refine zV rfl [] 0 [(0,0,[]),(1,0,[]),(2,0,[]),(4,0,[]),(5,0,[]),(6,0,[]),(3,0,[]),(8,0,[]),(7,0,[]),(9,0,[])] rfl (by decide) (by decide) ?_
    simp only[go_sem,t8,U]
    refine⟨.tup [x',y'],by simp only[go_sem],.inl ⟨_,_,_,rfl,zr rfl hN,rfl,?_,?_⟩⟩
    ·rw[hs];exact m4.new (by rw[ze];omega)
    ·rw[hs];exact m5.new (by rw[ze];omega)
