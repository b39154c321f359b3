import Derived.Test.YtigdlmpjijhpaaaGreatKA
import Derived.Test.YtigdlmpjijhpaaaGreatK18
import Derived.Test.YtigdlmpjijhpaaaGreatK14
set_option linter.all false
namespace Go.Proofs.YtigdlmpjijhpaaaGreat.Ax
open Go Go.Proofs
set_option maxRecDepth 100000
theorem c58(F:List (Nat × List AV))(h0 h:List Ob)(i:Nat)(s:Setup)(a:SA)(t:TellS)(at_:Int)(g:TellIn F h0 h i s a t)(D:szT t+2<1099511627776):
  ACalls Tryz.prog 69 [.ptr i 0,i64 at_] h λr h'=>r= .tup []/\TellIn F h0 h' i s a (jE s t at_):=by
 have hex:=TellIn.ex g (jE s t at_)
 have n:=g
 obtain⟨k1,k2,N,p,x,y,k3,k4,k5,k6⟩:=n
 have I:∀M,(h++M)[i]? =some (.box 138 (wm s a p x y)):=λM=>zf k3
 cases c:t.open_ with
 | none=>
   rw[c] at k6
   have k6:p= .v (.pointer none):=k6
   subst k6
   have d:jE s t at_=t:=by simp only[jE,c]
   rw[d] at hex⊢
   refine zl Tryz.f69 [] 28 rfl rfl rfl rfl rfl rfl (by decide) (hex) λB=>?_
   simp only[go_sem,I,k3]
   exact⟨.tup [],by simp only[go_sem],.inl ⟨rfl,g⟩⟩
 | some q=>
   obtain⟨e,os⟩:=q
   rw[c] at k6
   obtain⟨j,o,R,rfl,u,P⟩:=k6
   have d:jE s t at_=if at_>wr (e.at_+s.cap) then yI s (vz t e 1) e os (wr (e.at_+s.cap)) else t:=by simp only[jE,c]
   simp only[szT,c,szO] at D
   refine zl Tryz.f69 [] 28 rfl rfl rfl rfl rfl rfl (by decide) (hex) λB=>?_
   simp only[go_sem,k3,qE]
   refine zi (c90 h i j s a x y o e k3 u) ?_
   rintro _ L ⟨rfl,m⟩
   subst m
   simp only[go_sem]
   refine ways (λk=>?_) (λk=>?_)
   ·have b:at_>wr (e.at_+s.cap):=of_decide_eq_true k
    rw[if_pos b] at d
    simp only[go_sem,k3,u]
    refine zi (c85 F h0 L i s a t e 1 g (by omega)) ?_
    rintro _ H ⟨rfl,q⟩
    have G:=q
    obtain⟨V,U,T,Q,x',y',E,O,S,w⟩:=G
    have f:(vz t e 1).open_=some (e,os):=c
    rw[f] at w
    obtain⟨K,o',J,rfl,l,z⟩:=w
    simp only[go_sem]
    refine zi (c90 H i K s a x' y' o' e E l) ?_
    rintro _ C ⟨rfl,m⟩
    subst m
    simp only[go_sem]
    refine zi (c86 F h0 _ i s a _ e os _ q f (by simp only[vz];omega)) ?_
    rintro _ C ⟨rfl,A⟩
    simp only[go_sem]
    exact⟨.tup [],by simp only[go_sem],.inl ⟨rfl,by rw[d];exact A⟩⟩
   ·have b:¬ at_>wr (e.at_+s.cap):=of_decide_eq_false k
    rw[if_neg b] at d
    rw[d]
    simp only[go_sem]
    exact⟨.tup [],by simp only[go_sem],.inl ⟨rfl,g⟩⟩
theorem c56(F:List (Nat × List AV))(h0 h:List Ob)(i:Nat)(s:Setup)(a:SA)(t:TellS)(e:Ev)(ht:TellIn F h0 h i s a t)(hl:szT t+8<1099511627776):
  ACalls Tryz.prog 68 [.ptr i 0,evV e] h λr h'=>r= .tup []/\TellIn F h0 h' i s a (wP s t e):=by
 have hex:=TellIn.ex ht (wP s t e)
 obtain⟨u,Y⟩:∃u,u=jE s t e.at_:=⟨_,rfl⟩
 have X:=XC (s:=s) (t:=t) (at_:=e.at_)
 rw[<-Y] at X
 unfold wP at hex⊢
 rw[<-Y] at hex⊢
 refine zl Tryz.f68 [] 69 rfl rfl rfl rfl rfl rfl (by decide) (hex) λB=>?_
 have T:∀M,(h++ .box 75 (evC e)::M)[h.length]? =some (.box 75 (evC e)):=λM=>by rw[zM rfl];rfl
 simp only[go_sem,T]
 refine zi (c58 ((h.length,evC e)::F) h0 _ i s a t e.at_ (ht.keep e) (by omega)) ?_
 rintro _ b ⟨rfl,q⟩
 rw[<-Y] at q
 have m:b[h.length]? =some (.box 75 (evC e)):=q.kept _ List.mem_cons_self
 have D:∀M,(b++M)[h.length]? =some (.box 75 (evC e)):=λM=>zf m
 have q':=q
 obtain⟨k1,k2,kf,p,x,y,k3,k4,k5,k6⟩:=q'
 have hb:∀M,(b++M)[i]? =some (.box 138 (wm s a p x y)):=λM=>zf k3
 have Q:∀M o,(b++M).set i o=b.set i o++M:=λM o=>jc k3
 have E:Kept F b:=λz V=>kf z (List.mem_cons_of_mem _ V)
 have J:=k1.len
 simp only[go_sem,m]
 refine ways (λA=>?_) (λA=>?_)
 ·have A:e.kind=1:=by simpa using A
  rw[if_pos A]
  cases d:u.open_ with
  | none=>
    rw[d] at k6
    have k6:p= .v (.pointer none):=k6
    subst k6
    simp only[go_sem,m,k3,hb,Q,D]
    exact⟨.tup [],by simp only[go_sem],.inl ⟨rfl,(k1.set k2 rfl).app (zF rfl),k2,(E.set_box k3 (by decide) _).app _,_,_,_,zf (zq k3),(k4.set_box k3 _).app _,(k5.set_box k3 _).app _,b.length,_,J,rfl,by rw[zM (by simp)];rfl,.inl ⟨rfl,rfl⟩⟩⟩
  | some z=>
    obtain⟨f,os⟩:=z
    rw[d] at k6
    obtain⟨j,o,L,rfl,c,j4⟩:=k6
    have g:szT u=u.segs.length+u.flags.length+(os.length+1):=by simp only[szT,d,szO]
    simp only[go_sem,k3,c]
    refine zi (c85 _ h0 b i s a u f 2 q (by omega)) ?_
    rintro _ O ⟨rfl,G⟩
    have Z:O[h.length]? =some (.box 75 (evC e)):=G.kept _ List.mem_cons_self
    simp only[go_sem,Z]
    refine zi (c86 _ h0 O i s a _ f os e.at_ G d (by simp only[vz];omega)) ?_
    rintro _ H ⟨rfl,q3⟩
    have U:H[h.length]? =some (.box 75 (evC e)):=q3.kept _ List.mem_cons_self
    obtain⟨m1,m2,mf,p',x',y',I,m4,m5,m6⟩:=q3
    have C:∀M,(H++M)[i]? =some (.box 138 (wm s a p' x' y')):=λM=>zf I
    have n:∀M o,(H++M).set i o=H.set i o++M:=λM o=>jc I
    have β:Kept F H:=λz V=>mf z (List.mem_cons_of_mem _ V)
    simp only[go_sem,U,C,n]
    exact⟨.tup [],by simp only[go_sem],.inl ⟨rfl,(m1.set m2 rfl).app (zF rfl),m2,(β.set_box I (by decide) _).app _,_,_,_,zf (zq I),(m4.set_box I _).app _,(m5.set_box I _).app _,H.length,_,m1.len,rfl,by rw[zM (by simp)];rfl,.inl ⟨rfl,rfl⟩⟩⟩
 ·have A:¬ e.kind=1:=by simpa using A
  rw[if_neg A]
  cases d:u.open_ with
  | none=>
    rw[d] at k6
    have k6:p= .v (.pointer none):=k6
    subst k6
    have g:szT u=u.segs.length+u.flags.length+0:=by simp only[szT,d,szO]
    simp only[go_sem,m,k3]
    refine zi (c85 _ h0 b i s a u e 3 q (by omega)) ?_
    rintro _ O ⟨rfl,G⟩
    simp only[go_sem]
    exact⟨.tup [],by simp only[go_sem],.inl ⟨rfl,G.drop⟩⟩
  | some z=>
    obtain⟨f,os⟩:=z
    rw[d] at k6
    obtain⟨j,o,L,rfl,c,j4⟩:=k6
    have g:szT u=u.segs.length+u.flags.length+(os.length+1):=by simp only[szT,d,szO]
    simp only[go_sem,k3,c,m]
    refine ways (λw=>?_) (λw=>?_)
    ·have w:e.kind=2:=by simpa using w
     simp only[go_sem,m]
     refine zi (c86 _ h0 b i s a u f os e.at_ q d (by omega)) ?_
     rintro _ O ⟨rfl,G⟩
     simp only[go_sem]
     exact⟨.tup [],by simp only[go_sem],.inl ⟨rfl,by simp only[if_pos w];exact G.drop⟩⟩
    ·have w:¬ e.kind=2:=by simpa using w
     simp only[if_neg w]
     have K:∀M,(b++M)[j]? =some (.box 236 (q0a f o)):=λM=>zf c
     have N:∀M o,(b++M).set j o=b.set j o++M:=λM o=>jc c
     have d1:=kL c k3 (by decide)
     rcases j4 with⟨rfl,hn⟩|⟨id,st,r1,rfl,k⟩
     ·simp only[go_sem]
      refine zV rfl [.res] 1 [(0,0,[]),(1,0,[]),(2,0,[]),(4,0,[]),(5,0,[]),(6,0,[]),(3,0,[]),(7,0,[]),(8,0,[]),(9,0,[]),(10,0,[]),(11,0,[]),(12,0,[]),(13,0,[3]),(14,0,[]),(15,0,[]),(16,0,[])] rfl (by decide) (by decide) ?_
      simp only[go_sem,m,D,k3,c,hb,Q,K,N]
      refine⟨.tup [],by simp only[go_sem],.inl ⟨rfl,(k1.set L rfl).app (zp rfl (zF rfl)),k2,(E.set_box c (by decide) _).app _,.ptr j 0,x,y,zf (by rw[zc d1];exact k3),(k4.set_box c _).app _,(k5.set_box c _).app _,j,.tl (b.length+1) 0,L,rfl,zf (zq c),.inr ⟨b.length+1,0,by omega,rfl,?_⟩⟩⟩
      rw[zN (by simp),zy,hn]
      rfl
     ·have hid:∀M,(b++M)[id]? =some (.row 75 11 (os.map evC) st):=λM=>zf k
      have n:∀M o,(b++M).set id o=b.set id o++M:=λM o=>jc k
      have l:∀ {j u:Nat} {cs:List AV},b[j]? =some (.box u cs)->∀o,(b.set id o)[j]? =some (.box u cs):=λK o=>by
       rw[zc (λq=>by rw[q,K] at k;cases k)];exact K
      have R:∀M o,(b.set id o++M)[j]? =_:=λM o=>zf (l c o)
      have C:∀M o,(b.set id o++M)[i]? =_:=λM o=>zf (l k3 o)
      have W:∀M o S,(b.set id o++M).set j S=(b.set id o).set j S++M:=λM o S=>jc (l c o)
      have δ:∀M o,(b.set id o++M)[h.length]? =_:=λM o=>zf (l m o)
      have γ:j≠id:=λq=>by rw[q,k] at c;cases c
      have g:szT u=u.segs.length+u.flags.length+(os.length+1):=by simp only[szT,d,szO]
      have P:((os.map evC).length+1)*89<=140737488355328:=by rw[zb];omega
      simp only[go_sem]
      refine zV rfl [.res] 1 [(0,0,[]),(1,0,[]),(2,0,[]),(4,0,[]),(5,0,[]),(6,0,[]),(3,0,[]),(7,0,[]),(8,0,[]),(9,0,[]),(10,0,[]),(11,0,[]),(12,0,[]),(13,0,[3]),(14,0,[]),(15,0,[]),(16,0,[])] rfl (by decide) (by decide) ?_
      simp only[go_sem,m,D,k3,c,hb,Q,K,N,hid,n,R,C,W,δ,P]
      refine⟨.tup [],by simp only[go_sem],.inl ⟨rfl,((k1.set r1 rfl).set L rfl).app (zF rfl),k2,((E.set_row k _).set_box (l c _) (by decide) _).app _,.ptr j 0,x,y,zf (by rw[zc d1];exact l k3 _),((k4.set_row k (by decide) _).set_box (l c _) _).app _,((k5.set_row k (by decide) _).set_box (l c _) _).app _,j,.tl id (st+1),L,rfl,zf (zq (l c _)),.inr ⟨id,st+1,r1,rfl,zf ?_⟩⟩⟩
      rw[zc γ,zq k,zy]
      rfl
def ZZ(s:Setup)(w:Int)(e:Ev):Bool:=(e.worker==w && e.kind != 7) && ZY s e
def vd(s:Setup)(w:Int)(t:TellS)(e:Ev):TellS:=if ZZ s w e then wP s t e else t
def goP(s:Setup)(w:Int)(l:List Ev):TellS:=l.foldl (vd s w) ⟨none,[],[]⟩
def qC(s:Setup)(l:List Ev)(w:Int):List Seg × List Flg:=if qo s then((jE s (goP s w (qj l)) 32054400).segs,(jE s (goP s w (qj l)) 32054400).flags) else([],[])
theorem Zha{s:Setup}{w:Int}{t:TellS}{e:Ev}:szT (vd s w t e)<=szT t+3:=by
 unfold vd
 split
 ·exact Zga
 ·omega
theorem xSa{s:Setup}{w:Int}(l:List Ev):∀ {t:TellS},szT (l.foldl (vd s w) t)<=szT t+3*l.length:=by
 induction l with
 | nil=>intro t;simp
 | cons x l a=>
   intro t
   rw[List.foldl_cons]
   have c:=a (t:=vd s w t x)
   have b:=Zha (s:=s) (w:=w) (t:=t) (e:=x)
   rw[List.length_cons]
   omega
def New(h:List Ob)(e:Nat)(x:AV)(rows:List (List AV))(L:List Ob):Prop:=∀a:List Ob,a.length=h.length->SlOf (a++L) x e rows
theorem OwnS.new{h0 h L:List Ob}{ty e:Nat}{x:AV}{rows:List (List AV)}(k:OwnS h0 (h++L) ty e x rows)(c:h.length<=h0.length):New h e x rows L:=λb a=>by
 rcases k with⟨rfl,rfl⟩|⟨id,st,k1,rfl,k3⟩
 ·exact⟨rfl,λh=>absurd rfl h⟩
 ·have:(b++L)[id]? =some (.row ty e rows st):=by
   rw[zI (by omega)] at k3⊢
   rw[a]
   exact k3
  refine⟨?_,λ_=>?_⟩
  ·rw[qS,this,vO,if_pos rfl]
  ·rw[j5,this,yh]
theorem c21(h:List Ob)(s:Setup)(a:SA)(k:SIn h s a)(f:SFit s)(x:AV)(l:List Ev)(w:Int)(hx:SlOf h x 11 (l.map evC))(hl:l.length<1048576):
  ACalls Tryz.prog 21 [jm s a,x,i64 w] h λr h'=>∃L y z,h'=h++L/\NoRes L/\r= .tup [y,z]/\New h 5 y ((qC s l w).1.map vb) L/\New h 2 z ((qC s l w).2.map jT) L:=by
 have hex:∃r h',(∃L y z,h'=h++L/\NoRes L/\r=AV.tup [y,z]/\New h 5 y ((qC s l w).1.map vb) L/\New h 2 z ((qC s l w).2.map jT) L)/\ResK h h':=
  ⟨_,_,⟨[],.sl 5 _,.sl 2 _,rfl,xr,rfl,λ_ _=>⟨rfl,λ_=>rfl⟩,λ_ _=>⟨rfl,λ_=>rfl⟩⟩,q8⟩
 refine zl Tryz.f21 [.tmp 6,.tmp 7] 55 rfl rfl rfl rfl rfl rfl (by decide) (hex) λB=>?_
 simp only[go_sem,k.w.one,k.e.one,k.c.one,k.g.one,k.r.one,k.t.one]
 refine zi (c16 _ s a (k.app _) f) ?_
 rintro _ h1 ⟨rfl,e2⟩
 subst e2
 simp only[go_sem]
 refine ways (λe=>?_) (λe=>?_)
 ·have R:qo s=false:=by simpa using e
  simp only[go_sem]
  refine⟨.tup [.v (.slice none 0 0),.v (.slice none 0 0)],by simp only[go_sem],.inl ⟨_,_,_,rfl,zF rfl,rfl,?_,?_⟩⟩
  ·rw[qC,R];exact λ_ _=>⟨rfl,λh=>absurd rfl h⟩
  ·rw[qC,R];exact λ_ _=>⟨rfl,λh=>absurd rfl h⟩
 ·have R:qo s=true:=by simpa using e
  simp only[VD,zEa]
  rw[xk,xk,Xl,xk]
  have J:=jQ l
  have k0:SIn (h++[.box 30 (qa s a)]) s a:=k.app _
  have hs:qC s l w=((jE s (goP s w (qj l)) 32054400).segs,(jE s (goP s w (qj l)) 32054400).flags):=by rw[qC,R];rfl
  obtain⟨h0,j⟩:∃h0,h0=h++[.box 30 (qa s a)]:=⟨_,rfl⟩
  have V:h0.length=h.length+1:=by rw[j];simp
  refine ZQ (λT h'=>TellIn [] h0 h' (h.length+1) s a ⟨none,[],[]⟩/\T 2=i64 w/\T 3= .ptr h.length 0/\T 8= .ptr (h.length+1) 0/\T 9= .fn (.func 68) [.ptr (h.length+1) 0] []/\T 22=i64 l.length/\T 23=i64 0/\((qj l=[]/\T 21= .v (.slice none 0 0))∨(∃id st,T 21= .tl id st/\h'[id]? =some (ja (qj l) st)/\h0.length<=id))) ?_ ?_
  ·simp only[go_sem,k.w.one,k.e.one,k.c.one,k.g.one,k.r.one,k.t.one]
   have F:TellIn [] h0 (h0++[.box 138 (wm s a (.v (.pointer none)) (.v (.slice none 0 0)) (.v (.slice none 0 0)))]) (h.length+1) s a ⟨none,[],[]⟩:=
    ⟨Pre.refl.app (zF rfl),by omega,(λ_ h=>by cases h),_,_,_,by rw[<-V,zM rfl];rfl,.inl ⟨rfl,rfl⟩,.inl ⟨rfl,rfl⟩,rfl⟩
   rw[j,zn] at F
   refine zi (c57 _ x l (hx.app _) (by omega)) ?_
   rintro r S (⟨rfl,rfl,rfl⟩|⟨rfl,rfl⟩)
   ·simp only[go_sem,List.length_nil]
    rw[j]
    exact⟨F,.inl rfl⟩
   ·have hg:∀M,(h++ .box 30 (qa s a):: .box 138 (wm s a (.v (.pointer none)) (.v (.slice none 0 0)) (.v (.slice none 0 0)))::ja (qj l) 1::M)[h.length+2]? =some (ja (qj l) 1):=λM=>by rw[zN rfl];rfl
    simp only[go_sem,hg,zb,J]
    have Q:=F.app (M:=[ja (qj l) 1]) (zF rfl)
    rw[zn, <-j] at Q
    exact⟨Q,.inr ⟨_,_,rfl,by rw[zN rfl];rfl,by omega⟩⟩
  ·rintro T h' ⟨o,t2,t3,t8,t9,t22,b,P⟩
   simp only[go_sem]
   refine VQ (λT h'=>∃y,(∀X:List Ob,SlOf X y 11 ((qj l).map evC))/\TellIn [] h0 h' (h.length+1) s a ⟨none,[],[]⟩/\T 2=i64 w/\T 3= .ptr h.length 0/\T 8= .ptr (h.length+1) 0/\T 9= .fn (.func 68) [.ptr (h.length+1) 0] []/\T 21=y/\T 22=i64 l.length/\T 23=i64 0) (λK=>?_) ?_
   ·rcases P with⟨hn,d⟩|⟨id,st,d,hr,α⟩
    ·exact K _ _ ⟨_,λX=>by rw[hn];exact⟨rfl,λh=>absurd rfl h⟩,o,t2,t3,t8,t9,d,t22,b⟩
    ·exact xia 21 d hr (K _ _ ⟨.sl 11 ((qj l).map evC),λX=>⟨rfl,λ_=>rfl⟩,o.gone hr α rfl,by simp only[go_sem,t2],by simp only[go_sem,t3],by simp only[go_sem,t8],by simp only[go_sem,t9],by simp only[go_sem],by simp only[go_sem,t22],by simp only[go_sem,b]⟩)
   clear o t2 t3 t8 t9 t22 b P
   rintro T h' ⟨y,P,o,t2,t3,t8,t9,d,t22,b⟩
   refine zO (by decide) (λm T h'=>∃k:Nat,k<=l.length/\TellIn [] h0 h' (h.length+1) s a (goP s w ((qj l).take k))/\T 2=i64 w/\T 3= .ptr h.length 0/\T 8= .ptr (h.length+1) 0/\T 9= .fn (.func 68) [.ptr (h.length+1) 0] []/\T 21=y/\T 22=i64 l.length/\T 23=i64 k/\m=l.length - k) l.length
    ⟨0,by omega,o,t2,t3,t8,t9,d,t22,b,rfl⟩ ?_
   clear o t2 t3 t8 t9 d t22 b
   rintro m T h' ⟨k,hk,o,t2,t3,t8,t9,d,t22,b,rfl⟩
   simp only[go_sem,t22,b]
   have N:szT (goP s w ((qj l).take k))<=szT ⟨none,[],[]⟩+3*((qj l).take k).length:=xSa ((qj l).take k)
   rw[zX] at N
   have θ:szT ⟨none,[],[]⟩=0:=rfl
   have Y:h'[h.length]? =some (.box 30 (qa s a)):=by
    obtain⟨L,W,_⟩:=o.pre
    rw[W,j]
    exact zf (by simp)
   refine ways (λe=>?_) (λe=>?_)
   ·have ρ:=dlt e
    have u:k<(qj l).length:=by omega
    have G:=(P h').at (i:=k) (by simpa using u)
    have D:=(P h').rows
    have n:((qj l).map evC)[k]? =some (evC (qj l)[k]):=jR (zh u)
    have C:(k:Int)<(qj l).length:=by omega
    obtain⟨ev,O⟩:∃ev,ev=(qj l)[k]:=⟨_,rfl⟩
    rw[<-O] at n
    have p:goP s w ((qj l).take (k+1))=vd s w (goP s w ((qj l).take k)) ev:=by
     rw[goP, <-zD u,jb,O]
     rfl
    have E:∀M,(h'++M)[h.length]? =some (.box 30 (qa s a)):=λM=>zf Y
    have hA:List.length (evC ev)=11:=rfl
    have skip:ZZ s w ev=false->TellIn [] h0 (h'++[.box 75 (evC ev)]) (h.length+1) s a (goP s w ((qj l).take (k+1))):=λq=>by
     rw[p,vd,q]
     exact o.app (zF rfl)
    have fin:k+1<=l.length:=by omega
    by_cases q1:ev.worker=w
    ·have A:(ev.worker==w)=true:=by simpa using q1
     by_cases q2:ev.kind=7
     ·have H:(ev.kind != 7)=false:=by simpa using q2
      simp only[go_sem,d,b,G,D,n,C,zb,Int.toNat_natCast,zg,t2,E,A,H,qE]
      exact⟨l.length - (k+1),by omega,k+1,fin,skip (by simp only[ZZ,A,H];rfl),t3,t8,t9,t22,qc (by omega) rfl,rfl⟩
     ·have H:(ev.kind != 7)=true:=by simpa using q2
      simp only[go_sem,t3,d,b,G,D,n,C,zb,Int.toNat_natCast,zg,t2,E,A,H,qE]
      refine zi (c14 _ s a ((o.app (zF rfl)).pre.sin (j▸k0)) ev) ?_
      rintro _ S ⟨rfl,e3⟩
      subst e3
      simp only[go_sem]
      refine ways (λZ=>?_) (λZ=>?_)
      ·have I:ZZ s w ev=true:=by simp only[ZZ,A,H];exact Z
       simp only[go_sem,t9]
       refine zi (c56 [] h0 _ _ s a _ ev (o.app (zF rfl)) (by omega)) ?_
       rintro _ S ⟨rfl,q⟩
       simp only[go_sem,b]
       refine⟨l.length - (k+1),by omega,k+1,fin,?_,t2,t3,t8,t9,d,t22,qc (by omega) rfl,rfl⟩
       rw[p,vd,I]
       exact q
      ·simp only[go_sem,b]
       exact⟨l.length - (k+1),by omega,k+1,fin,skip (by simp only[ZZ,A,H];exact Z),t2,t3,t8,t9,d,t22,qc (by omega) rfl,rfl⟩
    ·have A:(ev.worker==w)=false:=by simpa using q1
     simp only[go_sem,d,b,G,D,n,C,zb,Int.toNat_natCast,zg,t2,E,A,qE]
     exact⟨l.length - (k+1),by omega,k+1,fin,skip (by simp only[ZZ,A];rfl),t3,t8,t9,t22,qc (by omega) rfl,rfl⟩
   ·have μ:=xc e
    have γ:k=(qj l).length:=by omega
    subst γ
    rw[zY] at o N
    simp only[go_sem,t8]
    refine zi (c58 [] h0 h' _ s a _ 32054400 o (by omega)) ?_
    rintro _ S ⟨rfl,q⟩
    obtain⟨m1,m2,mf,p',x',y',U,m4,m5,m6⟩:=q
    obtain⟨L,W,hN⟩:=m1
    subst W
    rw[j,zn] at U m4 m5
    rw[j,zn]
    rw[zN rfl] at U
    have β:L[0]? =some (.box 138 (wm s a p' x' y')):=U
    simp only[go_sem]
    refine zV rfl [] 0 [(0,0,[]),(1,0,[]),(2,0,[]),(4,0,[]),(5,0,[]),(6,0,[]),(3,0,[]),(8,0,[]),(7,0,[]),(9,0,[])] rfl (by decide) (by decide) ?_
    simp only[go_sem,t8,β]
    refine⟨.tup [x',y'],by simp only[go_sem],.inl ⟨_,_,_,rfl,zp rfl hN,rfl,?_,?_⟩⟩
    ·rw[hs];exact m4.new (by rw[ze];omega)
    ·rw[hs];exact m5.new (by rw[ze];omega)
