import Derived.Test.YtigdlmpjijhpaaaGreatKA
import Derived.Test.YtigdlmpjijhpaaaGreatK18
import Derived.Test.YtigdlmpjijhpaaaGreatK14
set_option linter.all false
namespace Go.Proofs.YtigdlmpjijhpaaaGreat.Ax
open Go Go.Proofs
set_option maxRecDepth 100000
theorem c58(F:List (Nat × List AV))(h0 h:List Ob)(i:Nat)(s:Setup)(a:SA)(t:TellS)(at_:Int)(f:TellIn F h0 h i s a t)(L:szT t+2<1099511627776):
  ACalls Tryz.prog 69 [.ptr i 0,i64 at_] h λr h'=>r= .tup []/\TellIn F h0 h' i s a (lateP s t at_):=by
 have hex:=TellIn.ex f (lateP s t at_)
 have l:=f
 obtain⟨k1,k2,N,p,x,y,k3,k4,k5,k6⟩:=l
 have z:∀M,(h++M)[i]? =some (.box 138 (yn s a p x y)):=λM=>ze k3
 cases c:t.open_ with
 | none=>
   rw[c] at k6
   have k6:p= .v (.pointer none):=k6
   subst k6
   have d:lateP s t at_=t:=by simp only[lateP,c]
   rw[d] at hex⊢
   refine zi Tryz.f69 [] 28 rfl rfl rfl rfl rfl rfl (by decide) (hex) λB=>?_
   simp only[go_sem,z,k3]
   exact⟨.tup [],by simp only[go_sem],.inl ⟨rfl,f⟩⟩
 | some q=>
   obtain⟨e,os⟩:=q
   rw[c] at k6
   obtain⟨j,o,U,rfl,w,R⟩:=k6
   have d:lateP s t at_=if at_>wr (e.at_+s.cap) then vJ s (xK t e 1) e os (wr (e.at_+s.cap)) else t:=by simp only[lateP,c]
   simp only[szT,c,szO] at L
   refine zi Tryz.f69 [] 28 rfl rfl rfl rfl rfl rfl (by decide) (hex) λB=>?_
   simp only[go_sem,k3,qt]
   refine zg (c90 h i j s a x y o e k3 w) ?_
   rintro _ A ⟨rfl,m⟩
   subst m
   simp only[go_sem]
   refine ways (λk=>?_) (λk=>?_)
   ·have b:at_>wr (e.at_+s.cap):=of_decide_eq_true k
    rw[if_pos b] at d
    simp only[go_sem,k3,w]
    refine zg (c85 F h0 A i s a t e 1 f (by omega)) ?_
    rintro _ D ⟨rfl,q⟩
    have E:=q
    obtain⟨Q,S,T,O,x',y',C,V,P,u⟩:=E
    have g:(xK t e 1).open_=some (e,os):=c
    rw[g] at u
    obtain⟨G,o',J,rfl,n,I⟩:=u
    simp only[go_sem]
    refine zg (c90 D i G s a x' y' o' e C n) ?_
    rintro _ H ⟨rfl,m⟩
    subst m
    simp only[go_sem]
    refine zg (c86 F h0 _ i s a _ e os _ q g (by simp only[xK];omega)) ?_
    rintro _ H ⟨rfl,K⟩
    simp only[go_sem]
    exact⟨.tup [],by simp only[go_sem],.inl ⟨rfl,by rw[d];exact K⟩⟩
   ·have b:¬ at_>wr (e.at_+s.cap):=of_decide_eq_false k
    rw[if_neg b] at d
    rw[d]
    simp only[go_sem]
    exact⟨.tup [],by simp only[go_sem],.inl ⟨rfl,f⟩⟩
theorem c56(F:List (Nat × List AV))(h0 h:List Ob)(i:Nat)(s:Setup)(a:SA)(t:TellS)(e:Ev)(ht:TellIn F h0 h i s a t)(hl:szT t+8<1099511627776):
  ACalls Tryz.prog 68 [.ptr i 0,evV e] h λr h'=>r= .tup []/\TellIn F h0 h' i s a (kw s t e):=by
 have hex:=TellIn.ex ht (kw s t e)
 obtain⟨u,W⟩:∃u,u=lateP s t e.at_:=⟨_,rfl⟩
 have α:=K9 (s:=s) (t:=t) (at_:=e.at_)
 rw[<-W] at α
 unfold kw at hex⊢
 rw[<-W] at hex⊢
 refine zi Tryz.f68 [] 69 rfl rfl rfl rfl rfl rfl (by decide) (hex) λB=>?_
 have Y:∀M,(h++ .box 75 (evC e)::M)[h.length]? =some (.box 75 (evC e)):=λM=>by rw[zM rfl];rfl
 simp only[go_sem,Y]
 refine zg (c58 ((h.length,evC e)::F) h0 _ i s a t e.at_ (ht.keep e) (by omega)) ?_
 rintro _ b ⟨rfl,q⟩
 rw[<-W] at q
 have k:b[h.length]? =some (.box 75 (evC e)):=q.kept _ List.mem_cons_self
 have E:∀M,(b++M)[h.length]? =some (.box 75 (evC e)):=λM=>ze k
 have q':=q
 obtain⟨k1,k2,kf,p,x,y,k3,k4,k5,k6⟩:=q'
 have P:∀M,(b++M)[i]? =some (.box 138 (yn s a p x y)):=λM=>ze k3
 have R:∀M o,(b++M).set i o=b.set i o++M:=λM o=>jk k3
 have C:Kept F b:=λz S=>kf z (List.mem_cons_of_mem _ S)
 have L:=k1.len
 simp only[go_sem,k]
 refine ways (λA=>?_) (λA=>?_)
 ·have A:e.kind=1:=by simpa using A
  rw[if_pos A]
  cases d:u.open_ with
  | none=>
    rw[d] at k6
    have k6:p= .v (.pointer none):=k6
    subst k6
    simp only[go_sem,k,k3,P,R,E]
    exact⟨.tup [],by simp only[go_sem],.inl ⟨rfl,(k1.set k2 rfl).app (zD rfl),k2,(C.set_box k3 (by decide) _).app _,_,_,_,ze (zm k3),(k4.set_box k3 _).app _,(k5.set_box k3 _).app _,b.length,_,L,rfl,by rw[zM (by simp)];rfl,.inl ⟨rfl,rfl⟩⟩⟩
  | some z=>
    obtain⟨f,os⟩:=z
    rw[d] at k6
    obtain⟨j,o,N,rfl,c,j4⟩:=k6
    have g:szT u=u.segs.length+u.flags.length+(os.length+1):=by simp only[szT,d,szO]
    simp only[go_sem,k3,c]
    refine zg (c85 _ h0 b i s a u f 2 q (by omega)) ?_
    rintro _ O ⟨rfl,I⟩
    have Q:O[h.length]? =some (.box 75 (evC e)):=I.kept _ List.mem_cons_self
    simp only[go_sem,Q]
    refine zg (c86 _ h0 O i s a _ f os e.at_ I d (by simp only[xK];omega)) ?_
    rintro _ H ⟨rfl,q3⟩
    have T:H[h.length]? =some (.box 75 (evC e)):=q3.kept _ List.mem_cons_self
    obtain⟨m1,m2,mf,p',x',y',G,m4,m5,m6⟩:=q3
    have w:∀M,(H++M)[i]? =some (.box 138 (yn s a p' x' y')):=λM=>ze G
    have n:∀M o,(H++M).set i o=H.set i o++M:=λM o=>jk G
    have X:Kept F H:=λz S=>mf z (List.mem_cons_of_mem _ S)
    simp only[go_sem,T,w,n]
    exact⟨.tup [],by simp only[go_sem],.inl ⟨rfl,(m1.set m2 rfl).app (zD rfl),m2,(X.set_box G (by decide) _).app _,_,_,_,ze (zm G),(m4.set_box G _).app _,(m5.set_box G _).app _,H.length,_,m1.len,rfl,by rw[zM (by simp)];rfl,.inl ⟨rfl,rfl⟩⟩⟩
 ·have A:¬ e.kind=1:=by simpa using A
  rw[if_neg A]
  cases d:u.open_ with
  | none=>
    rw[d] at k6
    have k6:p= .v (.pointer none):=k6
    subst k6
    have g:szT u=u.segs.length+u.flags.length+0:=by simp only[szT,d,szO]
    simp only[go_sem,k,k3]
    refine zg (c85 _ h0 b i s a u e 3 q (by omega)) ?_
    rintro _ O ⟨rfl,I⟩
    simp only[go_sem]
    exact⟨.tup [],by simp only[go_sem],.inl ⟨rfl,I.drop⟩⟩
  | some z=>
    obtain⟨f,os⟩:=z
    rw[d] at k6
    obtain⟨j,o,N,rfl,c,j4⟩:=k6
    have g:szT u=u.segs.length+u.flags.length+(os.length+1):=by simp only[szT,d,szO]
    simp only[go_sem,k3,c,k]
    refine ways (λD=>?_) (λD=>?_)
    ·have D:e.kind=2:=by simpa using D
     simp only[go_sem,k]
     refine zg (c86 _ h0 b i s a u f os e.at_ q d (by omega)) ?_
     rintro _ O ⟨rfl,I⟩
     simp only[go_sem]
     exact⟨.tup [],by simp only[go_sem],.inl ⟨rfl,by simp only[if_pos D];exact I.drop⟩⟩
    ·have D:¬ e.kind=2:=by simpa using D
     simp only[if_neg D]
     have J:∀M,(b++M)[j]? =some (.box 236 (kca f o)):=λM=>ze c
     have K:∀M o,(b++M).set j o=b.set j o++M:=λM o=>jk c
     have d1:=vI c k3 (by decide)
     rcases j4 with⟨rfl,hn⟩|⟨id,st,r1,rfl,m⟩
     ·simp only[go_sem]
      refine zL rfl [.res] 1 [(0,0,[]),(1,0,[]),(2,0,[]),(4,0,[]),(5,0,[]),(6,0,[]),(3,0,[]),(7,0,[]),(8,0,[]),(9,0,[]),(10,0,[]),(11,0,[]),(12,0,[]),(13,0,[3]),(14,0,[]),(15,0,[]),(16,0,[])] rfl (by decide) (by decide) ?_
      simp only[go_sem,k,E,k3,c,P,R,J,K]
      refine⟨.tup [],by simp only[go_sem],.inl ⟨rfl,(k1.set N rfl).app (zl rfl (zD rfl)),k2,(C.set_box c (by decide) _).app _,.ptr j 0,x,y,ze (by rw[zc d1];exact k3),(k4.set_box c _).app _,(k5.set_box c _).app _,j,.tl (b.length+1) 0,N,rfl,ze (zm c),.inr ⟨b.length+1,0,by omega,rfl,?_⟩⟩⟩
      rw[zG (by simp),zw,hn]
      rfl
     ·have hid:∀M,(b++M)[id]? =some (.row 75 11 (os.map evC) st):=λM=>ze m
      have n:∀M o,(b++M).set id o=b.set id o++M:=λM o=>jk m
      have l:∀ {j u:Nat} {cs:List AV},b[j]? =some (.box u cs)->∀o,(b.set id o)[j]? =some (.box u cs):=λJ o=>by
       rw[zc (λq=>by rw[q,J] at m;cases m)];exact J
      have Z:∀M o,(b.set id o++M)[j]? =_:=λM o=>ze (l c o)
      have w:∀M o,(b.set id o++M)[i]? =_:=λM o=>ze (l k3 o)
      have δ:∀M o V,(b.set id o++M).set j V=(b.set id o).set j V++M:=λM o V=>jk (l c o)
      have β:∀M o,(b.set id o++M)[h.length]? =_:=λM o=>ze (l k o)
      have U:j≠id:=λq=>by rw[q,m] at c;cases c
      have g:szT u=u.segs.length+u.flags.length+(os.length+1):=by simp only[szT,d,szO]
      have γ:((os.map evC).length+1)*89<=140737488355328:=by rw[zb];omega
      simp only[go_sem]
      refine zL rfl [.res] 1 [(0,0,[]),(1,0,[]),(2,0,[]),(4,0,[]),(5,0,[]),(6,0,[]),(3,0,[]),(7,0,[]),(8,0,[]),(9,0,[]),(10,0,[]),(11,0,[]),(12,0,[]),(13,0,[3]),(14,0,[]),(15,0,[]),(16,0,[])] rfl (by decide) (by decide) ?_
      simp only[go_sem,k,E,k3,c,P,R,J,K,hid,n,Z,w,δ,β,γ]
      refine⟨.tup [],by simp only[go_sem],.inl ⟨rfl,((k1.set r1 rfl).set N rfl).app (zD rfl),k2,((C.set_row m _).set_box (l c _) (by decide) _).app _,.ptr j 0,x,y,ze (by rw[zc d1];exact l k3 _),((k4.set_row m (by decide) _).set_box (l c _) _).app _,((k5.set_row m (by decide) _).set_box (l c _) _).app _,j,.tl id (st+1),N,rfl,ze (zm (l c _)),.inr ⟨id,st+1,r1,rfl,ze ?_⟩⟩⟩
      rw[zc U,zm m,zw]
      rfl
def yf(s:Setup)(w:Int)(e:Ev):Bool:=(e.worker==w && e.kind != 7) && vK s e
def vZ(s:Setup)(w:Int)(t:TellS)(e:Ev):TellS:=if yf s w e then kw s t e else t
def goP(s:Setup)(w:Int)(l:List Ev):TellS:=l.foldl (vZ s w) ⟨none,[],[]⟩
def qA(s:Setup)(l:List Ev)(w:Int):List Seg × List Flg:=if z6 s then((lateP s (goP s w (qv l)) 32054400).segs,(lateP s (goP s w (qv l)) 32054400).flags) else([],[])
theorem Xta{s:Setup}{w:Int}{t:TellS}{e:Ev}:szT (vZ s w t e)<=szT t+3:=by
 unfold vZ
 split
 ·exact Xsa
 ·omega
theorem wea{s:Setup}{w:Int}(l:List Ev):∀ {t:TellS},szT (l.foldl (vZ s w) t)<=szT t+3*l.length:=by
 induction l with
 | nil=>intro t;simp
 | cons x l a=>
   intro t
   rw[List.foldl_cons]
   have b:=a (t:=vZ s w t x)
   have c:=Xta (s:=s) (w:=w) (t:=t) (e:=x)
   rw[List.length_cons]
   omega
def New(h:List Ob)(e:Nat)(x:AV)(rows:List (List AV))(L:List Ob):Prop:=∀a:List Ob,a.length=h.length->SlOf (a++L) x e rows
theorem OwnS.new{h0 h L:List Ob}{ty e:Nat}{x:AV}{rows:List (List AV)}(k:OwnS h0 (h++L) ty e x rows)(c:h.length<=h0.length):New h e x rows L:=λb a=>by
 rcases k with⟨rfl,rfl⟩|⟨id,st,k1,rfl,k3⟩
 ·exact⟨rfl,λh=>absurd rfl h⟩
 ·have:(b++L)[id]? =some (.row ty e rows st):=by
   rw[zX (by omega)] at k3⊢
   rw[a]
   exact k3
  refine⟨?_,λ_=>?_⟩
  ·rw[qZ,this,kY,if_pos rfl]
  ·rw[jP,this,wl]
theorem c21(h:List Ob)(s:Setup)(a:SA)(k:SIn h s a)(f:SFit s)(x:AV)(l:List Ev)(w:Int)(hx:SlOf h x 11 (l.map evC))(hl:l.length<1048576):
  ACalls Tryz.prog 21 [je s a,x,i64 w] h λr h'=>∃L y z,h'=h++L/\NoRes L/\r= .tup [y,z]/\New h 5 y ((qA s l w).1.map xT) L/\New h 2 z ((qA s l w).2.map km) L:=by
 have hex:∃r h',(∃L y z,h'=h++L/\NoRes L/\r=AV.tup [y,z]/\New h 5 y ((qA s l w).1.map xT) L/\New h 2 z ((qA s l w).2.map km) L)/\ResK h h':=
  ⟨_,_,⟨[],.sl 5 _,.sl 2 _,rfl,jh,rfl,λ_ _=>⟨rfl,λ_=>rfl⟩,λ_ _=>⟨rfl,λ_=>rfl⟩⟩,resK_app⟩
 refine zi Tryz.f21 [.tmp 6,.tmp 7] 55 rfl rfl rfl rfl rfl rfl (by decide) (hex) λB=>?_
 simp only[go_sem,k.w.one,k.e.one,k.c.one,k.g.one,k.r.one,k.t.one]
 refine zg (c16 _ s a (k.app _) f) ?_
 rintro _ h1 ⟨rfl,e2⟩
 subst e2
 simp only[go_sem]
 refine ways (λe=>?_) (λe=>?_)
 ·have Q:z6 s=false:=by simpa using e
  simp only[go_sem]
  refine⟨.tup [.v (.slice none 0 0),.v (.slice none 0 0)],by simp only[go_sem],.inl ⟨_,_,_,rfl,zD rfl,rfl,?_,?_⟩⟩
  ·rw[qA,Q];exact λ_ _=>⟨rfl,λh=>absurd rfl h⟩
  ·rw[qA,Q];exact λ_ _=>⟨rfl,λh=>absurd rfl h⟩
 ·have Q:z6 s=true:=by simpa using e
  simp only[YB,jDa]
  rw[xM,xM,KR,xM]
  have J:=xl l
  have k0:SIn (h++[.box 30 (qg s a)]) s a:=k.app _
  have hs:qA s l w=((lateP s (goP s w (qv l)) 32054400).segs,(lateP s (goP s w (qv l)) 32054400).flags):=by rw[qA,Q];rfl
  obtain⟨h0,d⟩:∃h0,h0=h++[.box 30 (qg s a)]:=⟨_,rfl⟩
  have Y:h0.length=h.length+1:=by rw[d];simp
  refine w9 (λT h'=>TellIn [] h0 h' (h.length+1) s a ⟨none,[],[]⟩/\T 2=i64 w/\T 3= .ptr h.length 0/\T 8= .ptr (h.length+1) 0/\T 9= .fn (.func 68) [.ptr (h.length+1) 0] []/\T 22=i64 l.length/\T 23=i64 0/\((qv l=[]/\T 21= .v (.slice none 0 0))∨(∃id st,T 21= .tl id st/\h'[id]? =some (ji (qv l) st)/\h0.length<=id))) ?_ ?_
  ·simp only[go_sem,k.w.one,k.e.one,k.c.one,k.g.one,k.r.one,k.t.one]
   have E:TellIn [] h0 (h0++[.box 138 (yn s a (.v (.pointer none)) (.v (.slice none 0 0)) (.v (.slice none 0 0)))]) (h.length+1) s a ⟨none,[],[]⟩:=
    ⟨Pre.refl.app (zD rfl),by omega,(λ_ h=>by cases h),_,_,_,by rw[<-Y,zM rfl];rfl,.inl ⟨rfl,rfl⟩,.inl ⟨rfl,rfl⟩,rfl⟩
   rw[d,zt] at E
   refine zg (c57 _ x l (hx.app _) (by omega)) ?_
   rintro r Z (⟨rfl,rfl,rfl⟩|⟨rfl,rfl⟩)
   ·simp only[go_sem,List.length_nil]
    rw[d]
    exact⟨E,.inl rfl⟩
   ·have hg:∀M,(h++ .box 30 (qg s a):: .box 138 (yn s a (.v (.pointer none)) (.v (.slice none 0 0)) (.v (.slice none 0 0)))::ji (qv l) 1::M)[h.length+2]? =some (ji (qv l) 1):=λM=>by rw[zG rfl];rfl
    simp only[go_sem,hg,zb,J]
    have H:=E.app (M:=[ji (qv l) 1]) (zD rfl)
    rw[zt, <-d] at H
    exact⟨H,.inr ⟨_,_,rfl,by rw[zG rfl];rfl,by omega⟩⟩
  ·rintro T h' ⟨n,t2,t3,t8,t9,t22,t23,P⟩
   simp only[go_sem]
   refine YU (λT h'=>∃y,(∀R:List Ob,SlOf R y 11 ((qv l).map evC))/\TellIn [] h0 h' (h.length+1) s a ⟨none,[],[]⟩/\T 2=i64 w/\T 3= .ptr h.length 0/\T 8= .ptr (h.length+1) 0/\T 9= .fn (.func 68) [.ptr (h.length+1) 0] []/\T 21=y/\T 22=i64 l.length/\T 23=i64 0) (λK=>?_) ?_
   ·rcases P with⟨hn,b⟩|⟨id,st,b,hr,V⟩
    ·exact K _ _ ⟨_,λR=>by rw[hn];exact⟨rfl,λh=>absurd rfl h⟩,n,t2,t3,t8,t9,b,t22,t23⟩
    ·exact Yx 21 b hr (K _ _ ⟨.sl 11 ((qv l).map evC),λR=>⟨rfl,λ_=>rfl⟩,n.gone hr V rfl,by simp only[go_sem,t2],by simp only[go_sem,t3],by simp only[go_sem,t8],by simp only[go_sem,t9],by simp only[go_sem],by simp only[go_sem,t22],by simp only[go_sem,t23]⟩)
   clear n t2 t3 t8 t9 t22 t23 P
   rintro T h' ⟨y,P,n,t2,t3,t8,t9,b,t22,t23⟩
   refine zI (by decide) (λm T h'=>∃k:Nat,k<=l.length/\TellIn [] h0 h' (h.length+1) s a (goP s w ((qv l).take k))/\T 2=i64 w/\T 3= .ptr h.length 0/\T 8= .ptr (h.length+1) 0/\T 9= .fn (.func 68) [.ptr (h.length+1) 0] []/\T 21=y/\T 22=i64 l.length/\T 23=i64 k/\m=l.length - k) l.length
    ⟨0,by omega,n,t2,t3,t8,t9,b,t22,t23,rfl⟩ ?_
   clear n t2 t3 t8 t9 b t22 t23
   rintro m T h' ⟨k,hk,n,t2,t3,t8,t9,b,t22,t23,rfl⟩
   simp only[go_sem,t22,t23]
   have I:szT (goP s w ((qv l).take k))<=szT ⟨none,[],[]⟩+3*((qv l).take k).length:=wea ((qv l).take k)
   rw[zJ] at I
   have η:szT ⟨none,[],[]⟩=0:=rfl
   have β:h'[h.length]? =some (.box 30 (qg s a)):=by
    obtain⟨L,X,_⟩:=n.pre
    rw[X,d]
    exact ze (by simp)
   refine ways (λe=>?_) (λe=>?_)
   ·have σ:=dlt e
    have p:k<(qv l).length:=by omega
    have C:=(P h').at (i:=k) (by simpa using p)
    have D:=(P h').rows
    have j:((qv l).map evC)[k]? =some (evC (qv l)[k]):=xo (zj p)
    have A:(k:Int)<(qv l).length:=by omega
    obtain⟨ev,N⟩:∃ev,ev=(qv l)[k]:=⟨_,rfl⟩
    rw[<-N] at j
    have o:goP s w ((qv l).take (k+1))=vZ s w (goP s w ((qv l).take k)) ev:=by
     rw[goP, <-zE p,qK,N]
     rfl
    have F:∀M,(h'++M)[h.length]? =some (.box 30 (qg s a)):=λM=>ze β
    have hA:List.length (evC ev)=11:=rfl
    have skip:yf s w ev=false->TellIn [] h0 (h'++[.box 75 (evC ev)]) (h.length+1) s a (goP s w ((qv l).take (k+1))):=λq=>by
     rw[o,vZ,q]
     exact n.app (zD rfl)
    have fin:k+1<=l.length:=by omega
    by_cases q1:ev.worker=w
    ·have u:(ev.worker==w)=true:=by simpa using q1
     by_cases q2:ev.kind=7
     ·have G:(ev.kind != 7)=false:=by simpa using q2
      simp only[go_sem,b,t23,C,D,j,A,zb,Int.toNat_natCast,zh,t2,F,u,G,qt]
      exact⟨l.length - (k+1),by omega,k+1,fin,skip (by simp only[yf,u,G];rfl),t3,t8,t9,t22,qf (by omega) rfl,rfl⟩
     ·have G:(ev.kind != 7)=true:=by simpa using q2
      simp only[go_sem,t3,b,t23,C,D,j,A,zb,Int.toNat_natCast,zh,t2,F,u,G,qt]
      refine zg (c14 _ s a ((n.app (zD rfl)).pre.sin (d▸k0)) ev) ?_
      rintro _ Z ⟨rfl,e3⟩
      subst e3
      simp only[go_sem]
      refine ways (λU=>?_) (λU=>?_)
      ·have O:yf s w ev=true:=by simp only[yf,u,G];exact U
       simp only[go_sem,t9]
       refine zg (c56 [] h0 _ _ s a _ ev (n.app (zD rfl)) (by omega)) ?_
       rintro _ Z ⟨rfl,q⟩
       simp only[go_sem,t23]
       refine⟨l.length - (k+1),by omega,k+1,fin,?_,t2,t3,t8,t9,b,t22,qf (by omega) rfl,rfl⟩
       rw[o,vZ,O]
       exact q
      ·simp only[go_sem,t23]
       exact⟨l.length - (k+1),by omega,k+1,fin,skip (by simp only[yf,u,G];exact U),t2,t3,t8,t9,b,t22,qf (by omega) rfl,rfl⟩
    ·have u:(ev.worker==w)=false:=by simpa using q1
     simp only[go_sem,b,t23,C,D,j,A,zb,Int.toNat_natCast,zh,t2,F,u,qt]
     exact⟨l.length - (k+1),by omega,k+1,fin,skip (by simp only[yf,u];rfl),t3,t8,t9,t22,qf (by omega) rfl,rfl⟩
   ·have μ:=j9 e
    have S:k=(qv l).length:=by omega
    subst S
    rw[zP] at n I
    simp only[go_sem,t8]
    refine zg (c58 [] h0 h' _ s a _ 32054400 n (by omega)) ?_
    rintro _ Z ⟨rfl,q⟩
    obtain⟨m1,m2,mf,p',x',y',W,m4,m5,m6⟩:=q
    obtain⟨L,X,hN⟩:=m1
    subst X
    rw[d,zt] at W m4 m5
    rw[d,zt]
    rw[zG rfl] at W
    have α:L[0]? =some (.box 138 (yn s a p' x' y')):=W
    simp only[go_sem]
    refine zL rfl [] 0 [(0,0,[]),(1,0,[]),(2,0,[]),(4,0,[]),(5,0,[]),(6,0,[]),(3,0,[]),(8,0,[]),(7,0,[]),(9,0,[])] rfl (by decide) (by decide) ?_
    simp only[go_sem,t8,α]
    refine⟨.tup [x',y'],by simp only[go_sem],.inl ⟨_,_,_,rfl,zl rfl hN,rfl,?_,?_⟩⟩
    ·rw[hs];exact m4.new (by rw[zf];omega)
    ·rw[hs];exact m5.new (by rw[zf];omega)
