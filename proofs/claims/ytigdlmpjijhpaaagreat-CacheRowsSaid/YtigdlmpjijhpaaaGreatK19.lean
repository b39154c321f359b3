import Derived.Test.YtigdlmpjijhpaaaGreatKA
import Derived.Test.YtigdlmpjijhpaaaGreatK18
import Derived.Test.YtigdlmpjijhpaaaGreatK14
set_option linter.all false
namespace Go.Proofs.YtigdlmpjijhpaaaGreat.Ax
open Go Go.Proofs
set_option maxRecDepth 100000
theorem c58(F:List (Nat × List AV))(h0 h:List Ob)(i:Nat)(s:Setup)(a:SA)(t:TellS)(at_:Int)(f:TellIn F h0 h i s a t)(D:szT t+2<1099511627776):
  ACalls Tryz.prog 69 [.ptr i 0,i64 at_] h λr h'=>r= .tup []/\TellIn F h0 h' i s a (lateP s t at_):=by
 have hex:=TellIn.ex f (lateP s t at_)
 have n:=f
 obtain⟨k1,k2,P,p,x,y,k3,k4,k5,k6⟩:=n
 have I:∀M,(h++M)[i]? =some (.box 138 (yl s a p x y)):=λM=>ze k3
 cases d:t.open_ with
 | none=>
   rw[d] at k6
   have k6:p= .v (.pointer none):=k6
   subst k6
   have c:lateP s t at_=t:=by simp only[lateP,d]
   rw[c] at hex⊢
   refine zj Tryz.f69 [] 28 rfl rfl rfl rfl rfl rfl (by decide) (hex) λB=>?_
   simp only[go_sem,I,k3]
   exact⟨.tup [],by simp only[go_sem],.inl ⟨rfl,f⟩⟩
 | some q=>
   obtain⟨e,os⟩:=q
   rw[d] at k6
   obtain⟨j,o,O,rfl,u,U⟩:=k6
   have c:lateP s t at_=if at_>wr (e.at_+s.cap) then vH s (xJ t e 1) e os (wr (e.at_+s.cap)) else t:=by simp only[lateP,d]
   simp only[szT,d,szO] at D
   refine zj Tryz.f69 [] 28 rfl rfl rfl rfl rfl rfl (by decide) (hex) λB=>?_
   simp only[go_sem,k3,qv]
   refine zh (c90 h i j s a x y o e k3 u) ?_
   rintro _ E ⟨rfl,k⟩
   subst k
   simp only[go_sem]
   refine ways (λl=>?_) (λl=>?_)
   ·have b:at_>wr (e.at_+s.cap):=of_decide_eq_true l
    rw[if_pos b] at c
    simp only[go_sem,k3,u]
    refine zh (c85 F h0 E i s a t e 1 f (by omega)) ?_
    rintro _ G ⟨rfl,q⟩
    have C:=q
    obtain⟨T,Q,S,R,x',y',A,V,N,w⟩:=C
    have g:(xJ t e 1).open_=some (e,os):=d
    rw[g] at w
    obtain⟨z,o',J,rfl,m,L⟩:=w
    simp only[go_sem]
    refine zh (c90 G i z s a x' y' o' e A m) ?_
    rintro _ K ⟨rfl,k⟩
    subst k
    simp only[go_sem]
    refine zh (c86 F h0 _ i s a _ e os _ q g (by simp only[xJ];omega)) ?_
    rintro _ K ⟨rfl,H⟩
    simp only[go_sem]
    exact⟨.tup [],by simp only[go_sem],.inl ⟨rfl,by rw[c];exact H⟩⟩
   ·have b:¬ at_>wr (e.at_+s.cap):=of_decide_eq_false l
    rw[if_neg b] at c
    rw[c]
    simp only[go_sem]
    exact⟨.tup [],by simp only[go_sem],.inl ⟨rfl,f⟩⟩
theorem c56(F:List (Nat × List AV))(h0 h:List Ob)(i:Nat)(s:Setup)(a:SA)(t:TellS)(e:Ev)(ht:TellIn F h0 h i s a t)(hl:szT t+8<1099511627776):
  ACalls Tryz.prog 68 [.ptr i 0,evV e] h λr h'=>r= .tup []/\TellIn F h0 h' i s a (ko s t e):=by
 have hex:=TellIn.ex ht (ko s t e)
 obtain⟨u,hu⟩:∃u,u=lateP s t e.at_:=⟨_,rfl⟩
 have α:=K8 (s:=s) (t:=t) (at_:=e.at_)
 rw[<-hu] at α
 unfold ko at hex⊢
 rw[<-hu] at hex⊢
 refine zj Tryz.f68 [] 69 rfl rfl rfl rfl rfl rfl (by decide) (hex) λB=>?_
 have T:∀M,(h++ .box 75 (evC e)::M)[h.length]? =some (.box 75 (evC e)):=λM=>by rw[zK rfl];rfl
 simp only[go_sem,T]
 refine zh (c58 ((h.length,evC e)::F) h0 _ i s a t e.at_ (ht.keep e) (by omega)) ?_
 rintro _ b ⟨rfl,q⟩
 rw[<-hu] at q
 have k:b[h.length]? =some (.box 75 (evC e)):=q.kept _ List.mem_cons_self
 have E:∀M,(b++M)[h.length]? =some (.box 75 (evC e)):=λM=>ze k
 have q':=q
 obtain⟨k1,k2,kf,p,x,y,k3,k4,k5,k6⟩:=q'
 have hb:∀M,(b++M)[i]? =some (.box 138 (yl s a p x y)):=λM=>ze k3
 have X:∀M o,(b++M).set i o=b.set i o++M:=λM o=>jj k3
 have w:Kept F b:=λz S=>kf z (List.mem_cons_of_mem _ S)
 have J:=k1.len
 simp only[go_sem,k]
 refine ways (λn=>?_) (λn=>?_)
 ·have n:e.kind=1:=by simpa using n
  rw[if_pos n]
  cases d:u.open_ with
  | none=>
    rw[d] at k6
    have k6:p= .v (.pointer none):=k6
    subst k6
    simp only[go_sem,k,k3,hb,X,E]
    exact⟨.tup [],by simp only[go_sem],.inl ⟨rfl,(k1.set k2 rfl).app (zD rfl),k2,(w.set_box k3 (by decide) _).app _,_,_,_,ze (zm k3),(k4.set_box k3 _).app _,(k5.set_box k3 _).app _,b.length,_,J,rfl,by rw[zK (by simp)];rfl,.inl ⟨rfl,rfl⟩⟩⟩
  | some z=>
    obtain⟨f,os⟩:=z
    rw[d] at k6
    obtain⟨j,o,K,rfl,c,j4⟩:=k6
    have g:szT u=u.segs.length+u.flags.length+(os.length+1):=by simp only[szT,d,szO]
    simp only[go_sem,k3,c]
    refine zh (c85 _ h0 b i s a u f 2 q (by omega)) ?_
    rintro _ O ⟨rfl,H⟩
    have Y:O[h.length]? =some (.box 75 (evC e)):=H.kept _ List.mem_cons_self
    simp only[go_sem,Y]
    refine zh (c86 _ h0 O i s a _ f os e.at_ H d (by simp only[xJ];omega)) ?_
    rintro _ I ⟨rfl,q3⟩
    have R:I[h.length]? =some (.box 75 (evC e)):=q3.kept _ List.mem_cons_self
    obtain⟨m1,m2,mf,p',x',y',G,m4,m5,m6⟩:=q3
    have A:∀M,(I++M)[i]? =some (.box 138 (yl s a p' x' y')):=λM=>ze G
    have D:∀M o,(I++M).set i o=I.set i o++M:=λM o=>jj G
    have W:Kept F I:=λz S=>mf z (List.mem_cons_of_mem _ S)
    simp only[go_sem,R,A,D]
    exact⟨.tup [],by simp only[go_sem],.inl ⟨rfl,(m1.set m2 rfl).app (zD rfl),m2,(W.set_box G (by decide) _).app _,_,_,_,ze (zm G),(m4.set_box G _).app _,(m5.set_box G _).app _,I.length,_,m1.len,rfl,by rw[zK (by simp)];rfl,.inl ⟨rfl,rfl⟩⟩⟩
 ·have n:¬ e.kind=1:=by simpa using n
  rw[if_neg n]
  cases d:u.open_ with
  | none=>
    rw[d] at k6
    have k6:p= .v (.pointer none):=k6
    subst k6
    have g:szT u=u.segs.length+u.flags.length+0:=by simp only[szT,d,szO]
    simp only[go_sem,k,k3]
    refine zh (c85 _ h0 b i s a u e 3 q (by omega)) ?_
    rintro _ O ⟨rfl,H⟩
    simp only[go_sem]
    exact⟨.tup [],by simp only[go_sem],.inl ⟨rfl,H.drop⟩⟩
  | some z=>
    obtain⟨f,os⟩:=z
    rw[d] at k6
    obtain⟨j,o,K,rfl,c,j4⟩:=k6
    have g:szT u=u.segs.length+u.flags.length+(os.length+1):=by simp only[szT,d,szO]
    simp only[go_sem,k3,c,k]
    refine ways (λC=>?_) (λC=>?_)
    ·have C:e.kind=2:=by simpa using C
     simp only[go_sem,k]
     refine zh (c86 _ h0 b i s a u f os e.at_ q d (by omega)) ?_
     rintro _ O ⟨rfl,H⟩
     simp only[go_sem]
     exact⟨.tup [],by simp only[go_sem],.inl ⟨rfl,by simp only[if_pos C];exact H.drop⟩⟩
    ·have C:¬ e.kind=2:=by simpa using C
     simp only[if_neg C]
     have L:∀M,(b++M)[j]? =some (.box 236 (x9a f o)):=λM=>ze c
     have N:∀M o,(b++M).set j o=b.set j o++M:=λM o=>jj c
     have d1:=vG c k3 (by decide)
     rcases j4 with⟨rfl,hn⟩|⟨id,st,r1,rfl,m⟩
     ·simp only[go_sem]
      refine zQ rfl [.res] 1 [(0,0,[]),(1,0,[]),(2,0,[]),(4,0,[]),(5,0,[]),(6,0,[]),(3,0,[]),(7,0,[]),(8,0,[]),(9,0,[]),(10,0,[]),(11,0,[]),(12,0,[]),(13,0,[3]),(14,0,[]),(15,0,[]),(16,0,[])] rfl (by decide) (by decide) ?_
      simp only[go_sem,k,E,k3,c,hb,X,L,N]
      refine⟨.tup [],by simp only[go_sem],.inl ⟨rfl,(k1.set K rfl).app (zl rfl (zD rfl)),k2,(w.set_box c (by decide) _).app _,.ptr j 0,x,y,ze (by rw[zc d1];exact k3),(k4.set_box c _).app _,(k5.set_box c _).app _,j,.tl (b.length+1) 0,K,rfl,ze (zm c),.inr ⟨b.length+1,0,by omega,rfl,?_⟩⟩⟩
      rw[zG (by simp),zw,hn]
      rfl
     ·have hid:∀M,(b++M)[id]? =some (.row 75 11 (os.map evC) st):=λM=>ze m
      have D:∀M o,(b++M).set id o=b.set id o++M:=λM o=>jj m
      have l:∀ {j u:Nat} {cs:List AV},b[j]? =some (.box u cs)->∀o,(b.set id o)[j]? =some (.box u cs):=λL o=>by
       rw[zc (λq=>by rw[q,L] at m;cases m)];exact L
      have V:∀M o,(b.set id o++M)[j]? =_:=λM o=>ze (l c o)
      have A:∀M o,(b.set id o++M)[i]? =_:=λM o=>ze (l k3 o)
      have Z:∀M o U,(b.set id o++M).set j U=(b.set id o).set j U++M:=λM o U=>jj (l c o)
      have Q:∀M o,(b.set id o++M)[h.length]? =_:=λM o=>ze (l k o)
      have P:j≠id:=λq=>by rw[q,m] at c;cases c
      have g:szT u=u.segs.length+u.flags.length+(os.length+1):=by simp only[szT,d,szO]
      have δ:((os.map evC).length+1)*89<=140737488355328:=by rw[zb];omega
      simp only[go_sem]
      refine zQ rfl [.res] 1 [(0,0,[]),(1,0,[]),(2,0,[]),(4,0,[]),(5,0,[]),(6,0,[]),(3,0,[]),(7,0,[]),(8,0,[]),(9,0,[]),(10,0,[]),(11,0,[]),(12,0,[]),(13,0,[3]),(14,0,[]),(15,0,[]),(16,0,[])] rfl (by decide) (by decide) ?_
      simp only[go_sem,k,E,k3,c,hb,X,L,N,hid,D,V,A,Z,Q,δ]
      refine⟨.tup [],by simp only[go_sem],.inl ⟨rfl,((k1.set r1 rfl).set K rfl).app (zD rfl),k2,((w.set_row m _).set_box (l c _) (by decide) _).app _,.ptr j 0,x,y,ze (by rw[zc d1];exact l k3 _),((k4.set_row m (by decide) _).set_box (l c _) _).app _,((k5.set_row m (by decide) _).set_box (l c _) _).app _,j,.tl id (st+1),K,rfl,ze (zm (l c _)),.inr ⟨id,st+1,r1,rfl,ze ?_⟩⟩⟩
      rw[zc P,zm m,zw]
      rfl
def ye(s:Setup)(w:Int)(e:Ev):Bool:=(e.worker==w && e.kind != 7) && vI s e
def vW(s:Setup)(w:Int)(t:TellS)(e:Ev):TellS:=if ye s w e then ko s t e else t
def goP(s:Setup)(w:Int)(l:List Ev):TellS:=l.foldl (vW s w) ⟨none,[],[]⟩
def qA(s:Setup)(l:List Ev)(w:Int):List Seg × List Flg:=if z6 s then((lateP s (goP s w (qu l)) 32054400).segs,(lateP s (goP s w (qu l)) 32054400).flags) else([],[])
theorem Xja{s:Setup}{w:Int}{t:TellS}{e:Ev}:szT (vW s w t e)<=szT t+3:=by
 unfold vW
 split
 ·exact Xia
 ·omega
theorem v8a{s:Setup}{w:Int}(l:List Ev):∀ {t:TellS},szT (l.foldl (vW s w) t)<=szT t+3*l.length:=by
 induction l with
 | nil=>intro t;simp
 | cons x l a=>
   intro t
   rw[List.foldl_cons]
   have c:=a (t:=vW s w t x)
   have b:=Xja (s:=s) (w:=w) (t:=t) (e:=x)
   rw[List.length_cons]
   omega
def New(h:List Ob)(e:Nat)(x:AV)(rows:List (List AV))(L:List Ob):Prop:=∀a:List Ob,a.length=h.length->SlOf (a++L) x e rows
theorem OwnS.new{h0 h L:List Ob}{ty e:Nat}{x:AV}{rows:List (List AV)}(k:OwnS h0 (h++L) ty e x rows)(c:h.length<=h0.length):New h e x rows L:=λb a=>by
 rcases k with⟨rfl,rfl⟩|⟨id,st,k1,rfl,k3⟩
 ·exact⟨rfl,λh=>absurd rfl h⟩
 ·have:(b++L)[id]? =some (.row ty e rows st):=by
   rw[zX (by omega)] at k3⊢
   rw[a]
   exact k3
  refine⟨?_,λ_=>?_⟩
  ·rw[q8,this,kV,if_pos rfl]
  ·rw[jO,this,wg]
theorem c21(h:List Ob)(s:Setup)(a:SA)(k:SIn h s a)(f:SFit s)(x:AV)(l:List Ev)(w:Int)(hx:SlOf h x 11 (l.map evC))(hl:l.length<1048576):
  ACalls Tryz.prog 21 [jg s a,x,i64 w] h λr h'=>∃L y z,h'=h++L/\NoRes L/\r= .tup [y,z]/\New h 5 y ((qA s l w).1.map ve) L/\New h 2 z ((qA s l w).2.map xW) L:=by
 have hex:∃r h',(∃L y z,h'=h++L/\NoRes L/\r=AV.tup [y,z]/\New h 5 y ((qA s l w).1.map ve) L/\New h 2 z ((qA s l w).2.map xW) L)/\ResK h h':=
  ⟨_,_,⟨[],.sl 5 _,.sl 2 _,rfl,jm,rfl,λ_ _=>⟨rfl,λ_=>rfl⟩,λ_ _=>⟨rfl,λ_=>rfl⟩⟩,resK_app⟩
 refine zj Tryz.f21 [.tmp 6,.tmp 7] 55 rfl rfl rfl rfl rfl rfl (by decide) (hex) λB=>?_
 simp only[go_sem,k.w.one,k.e.one,k.c.one,k.g.one,k.r.one,k.t.one]
 refine zh (c16 _ s a (k.app _) f) ?_
 rintro _ h1 ⟨rfl,e2⟩
 subst e2
 simp only[go_sem]
 refine ways (λe=>?_) (λe=>?_)
 ·have Q:z6 s=false:=by simpa using e
  simp only[go_sem]
  refine⟨.tup [.v (.slice none 0 0),.v (.slice none 0 0)],by simp only[go_sem],.inl ⟨_,_,_,rfl,zD rfl,rfl,?_,?_⟩⟩
  ·rw[qA,Q];exact λ_ _=>⟨rfl,λh=>absurd rfl h⟩
  ·rw[qA,Q];exact λ_ _=>⟨rfl,λh=>absurd rfl h⟩
 ·have Q:z6 s=true:=by simpa using e
  simp only[Yz,jza]
  rw[xL,xL,KQ,xL]
  have H:=xj l
  have k0:SIn (h++[.box 30 (qg s a)]) s a:=k.app _
  have hs:qA s l w=((lateP s (goP s w (qu l)) 32054400).segs,(lateP s (goP s w (qu l)) 32054400).flags):=by rw[qA,Q];rfl
  obtain⟨h0,d⟩:∃h0,h0=h++[.box 30 (qg s a)]:=⟨_,rfl⟩
  have W:h0.length=h.length+1:=by rw[d];simp
  refine w8 (λT h'=>TellIn [] h0 h' (h.length+1) s a ⟨none,[],[]⟩/\T 2=i64 w/\T 3= .ptr h.length 0/\T 8= .ptr (h.length+1) 0/\T 9= .fn (.func 68) [.ptr (h.length+1) 0] []/\T 22=i64 l.length/\T 23=i64 0/\((qu l=[]/\T 21= .v (.slice none 0 0))∨(∃id st,T 21= .tl id st/\h'[id]? =some (jh (qu l) st)/\h0.length<=id))) ?_ ?_
  ·simp only[go_sem,k.w.one,k.e.one,k.c.one,k.g.one,k.r.one,k.t.one]
   have C:TellIn [] h0 (h0++[.box 138 (yl s a (.v (.pointer none)) (.v (.slice none 0 0)) (.v (.slice none 0 0)))]) (h.length+1) s a ⟨none,[],[]⟩:=
    ⟨Pre.refl.app (zD rfl),by omega,(λ_ h=>by cases h),_,_,_,by rw[<-W,zK rfl];rfl,.inl ⟨rfl,rfl⟩,.inl ⟨rfl,rfl⟩,rfl⟩
   rw[d,zr] at C
   refine zh (c57 _ x l (hx.app _) (by omega)) ?_
   rintro r h3 (⟨rfl,rfl,rfl⟩|⟨rfl,rfl⟩)
   ·simp only[go_sem,List.length_nil]
    rw[d]
    exact⟨C,.inl rfl⟩
   ·have hg:∀M,(h++ .box 30 (qg s a):: .box 138 (yl s a (.v (.pointer none)) (.v (.slice none 0 0)) (.v (.slice none 0 0)))::jh (qu l) 1::M)[h.length+2]? =some (jh (qu l) 1):=λM=>by rw[zG rfl];rfl
    simp only[go_sem,hg,zb,H]
    have P:=C.app (M:=[jh (qu l) 1]) (zD rfl)
    rw[zr, <-d] at P
    exact⟨P,.inr ⟨_,_,rfl,by rw[zG rfl];rfl,by omega⟩⟩
  ·rintro T h' ⟨n,t2,t3,t8,t9,t22,t23,O⟩
   simp only[go_sem]
   refine YS (λT h'=>∃y,(∀U:List Ob,SlOf U y 11 ((qu l).map evC))/\TellIn [] h0 h' (h.length+1) s a ⟨none,[],[]⟩/\T 2=i64 w/\T 3= .ptr h.length 0/\T 8= .ptr (h.length+1) 0/\T 9= .fn (.func 68) [.ptr (h.length+1) 0] []/\T 21=y/\T 22=i64 l.length/\T 23=i64 0) (λK=>?_) ?_
   ·rcases O with⟨hn,b⟩|⟨id,st,b,hr,Y⟩
    ·exact K _ _ ⟨_,λU=>by rw[hn];exact⟨rfl,λh=>absurd rfl h⟩,n,t2,t3,t8,t9,b,t22,t23⟩
    ·exact Yv 21 b hr (K _ _ ⟨.sl 11 ((qu l).map evC),λU=>⟨rfl,λ_=>rfl⟩,n.gone hr Y rfl,by simp only[go_sem,t2],by simp only[go_sem,t3],by simp only[go_sem,t8],by simp only[go_sem,t9],by simp only[go_sem],by simp only[go_sem,t22],by simp only[go_sem,t23]⟩)
   clear n t2 t3 t8 t9 t22 t23 O
   rintro T h' ⟨y,O,n,t2,t3,t8,t9,b,t22,t23⟩
   refine zO (by decide) (λm T h'=>∃k:Nat,k<=l.length/\TellIn [] h0 h' (h.length+1) s a (goP s w ((qu l).take k))/\T 2=i64 w/\T 3= .ptr h.length 0/\T 8= .ptr (h.length+1) 0/\T 9= .fn (.func 68) [.ptr (h.length+1) 0] []/\T 21=y/\T 22=i64 l.length/\T 23=i64 k/\m=l.length - k) l.length
    ⟨0,by omega,n,t2,t3,t8,t9,b,t22,t23,rfl⟩ ?_
   clear n t2 t3 t8 t9 b t22 t23
   rintro m T h' ⟨k,hk,n,t2,t3,t8,t9,b,t22,t23,rfl⟩
   simp only[go_sem,t22,t23]
   have N:szT (goP s w ((qu l).take k))<=szT ⟨none,[],[]⟩+3*((qu l).take k).length:=v8a ((qu l).take k)
   rw[zH] at N
   have δ:szT ⟨none,[],[]⟩=0:=rfl
   have X:h'[h.length]? =some (.box 30 (qg s a)):=by
    obtain⟨L,S,_⟩:=n.pre
    rw[S,d]
    exact ze (by simp)
   refine ways (λe=>?_) (λe=>?_)
   ·have κ:=dlt e
    have o:k<(qu l).length:=by omega
    have D:=(O h').at (i:=k) (by simpa using o)
    have E:=(O h').rows
    have j:((qu l).map evC)[k]? =some (evC (qu l)[k]):=xn (zi o)
    have A:(k:Int)<(qu l).length:=by omega
    obtain⟨ev,J⟩:∃ev,ev=(qu l)[k]:=⟨_,rfl⟩
    rw[<-J] at j
    have p:goP s w ((qu l).take (k+1))=vW s w (goP s w ((qu l).take k)) ev:=by
     rw[goP, <-zE o,qK,J]
     rfl
    have F:∀M,(h'++M)[h.length]? =some (.box 30 (qg s a)):=λM=>ze X
    have hA:List.length (evC ev)=11:=rfl
    have skip:ye s w ev=false->TellIn [] h0 (h'++[.box 75 (evC ev)]) (h.length+1) s a (goP s w ((qu l).take (k+1))):=λq=>by
     rw[p,vW,q]
     exact n.app (zD rfl)
    have fin:k+1<=l.length:=by omega
    by_cases q1:ev.worker=w
    ·have u:(ev.worker==w)=true:=by simpa using q1
     by_cases q2:ev.kind=7
     ·have G:(ev.kind != 7)=false:=by simpa using q2
      simp only[go_sem,b,t23,D,E,j,A,zb,Int.toNat_natCast,zf,t2,F,u,G,qv]
      exact⟨l.length - (k+1),by omega,k+1,fin,skip (by simp only[ye,u,G];rfl),t3,t8,t9,t22,qn (by omega) rfl,rfl⟩
     ·have G:(ev.kind != 7)=true:=by simpa using q2
      simp only[go_sem,t3,b,t23,D,E,j,A,zb,Int.toNat_natCast,zf,t2,F,u,G,qv]
      refine zh (c14 _ s a ((n.app (zD rfl)).pre.sin (d▸k0)) ev) ?_
      rintro _ h3 ⟨rfl,e3⟩
      subst e3
      simp only[go_sem]
      refine ways (λR=>?_) (λR=>?_)
      ·have I:ye s w ev=true:=by simp only[ye,u,G];exact R
       simp only[go_sem,t9]
       refine zh (c56 [] h0 _ _ s a _ ev (n.app (zD rfl)) (by omega)) ?_
       rintro _ h3 ⟨rfl,q⟩
       simp only[go_sem,t23]
       refine⟨l.length - (k+1),by omega,k+1,fin,?_,t2,t3,t8,t9,b,t22,qn (by omega) rfl,rfl⟩
       rw[p,vW,I]
       exact q
      ·simp only[go_sem,t23]
       exact⟨l.length - (k+1),by omega,k+1,fin,skip (by simp only[ye,u,G];exact R),t2,t3,t8,t9,b,t22,qn (by omega) rfl,rfl⟩
    ·have u:(ev.worker==w)=false:=by simpa using q1
     simp only[go_sem,b,t23,D,E,j,A,zb,Int.toNat_natCast,zf,t2,F,u,qv]
     exact⟨l.length - (k+1),by omega,k+1,fin,skip (by simp only[ye,u];rfl),t3,t8,t9,t22,qn (by omega) rfl,rfl⟩
   ·have ρ:=xr e
    have α:k=(qu l).length:=by omega
    subst α
    rw[zV] at n N
    simp only[go_sem,t8]
    refine zh (c58 [] h0 h' _ s a _ 32054400 n (by omega)) ?_
    rintro _ h3 ⟨rfl,q⟩
    obtain⟨m1,m2,mf,p',x',y',V,m4,m5,m6⟩:=q
    obtain⟨L,S,hN⟩:=m1
    subst S
    rw[d,zr] at V m4 m5
    rw[d,zr]
    rw[zG rfl] at V
    have Z:L[0]? =some (.box 138 (yl s a p' x' y')):=V
    simp only[go_sem]
    refine zQ rfl [] 0 [(0,0,[]),(1,0,[]),(2,0,[]),(4,0,[]),(5,0,[]),(6,0,[]),(3,0,[]),(8,0,[]),(7,0,[]),(9,0,[])] rfl (by decide) (by decide) ?_
    simp only[go_sem,t8,Z]
    refine⟨.tup [x',y'],by simp only[go_sem],.inl ⟨_,_,_,rfl,zl rfl hN,rfl,?_,?_⟩⟩
    ·rw[hs];exact m4.new (by rw[zg];omega)
    ·rw[hs];exact m5.new (by rw[zg];omega)
