/-
  Joined.
-/
import Derived.Test.YtfmldcilgbbimaaGreatK18
import Derived.Test.YtfmldcilgbbimaaGreatK14
set_option linter.unusedSimpArgs false
set_option linter.unusedVariables false
namespace Go.Proofs.YtfmldcilgbbimaaGreat.Ax
open Go Go.Proofs
set_option maxRecDepth 100000
theorem c58 (F:List (Nat × List AV)) (h0 h:List Ob) (i:Nat) (s:Setup) (a:SA) (t:TellS) (at_:Int) (g:TellIn F h0 h i s a t) (G:szT t+2<1099511627776):
  ACalls Tryz.prog 64 [.ptr i 0,i64 at_] h λr h'=>r= .tup []/\TellIn F h0 h' i s a (qF s t at_):=by
 have hex:=TellIn.ex g (qF s t at_)
 have k:=g
 obtain ⟨k1,k2,T,p,x,y,k3,k4,k5,k6⟩:=k
 have K:∀M,(h++M)[i]? =some (.box 129 (xT s a p x y)):=λM=>zb k3
 cases c:t.open_ with
 | none=>
   rw[c] at k6
   have k6:p= .v (.pointer none):=k6
   subst k6
   have d:qF s t at_=t:=by simp only[qF,c]
   rw[d] at hex⊢
   refine zf Tryz.f64 [] 28 rfl rfl rfl rfl rfl rfl (by decide) (hex) λB=>?_
   simp only[go_sem,K,k3]
   exact ⟨.tup [],by simp only[go_sem],.inl ⟨rfl,g⟩⟩
 | some q=>
   obtain ⟨e,os⟩:=q
   rw[c] at k6
   obtain ⟨j,o,R,rfl,w,U⟩:=k6
   have d:qF s t at_=if at_>wr (e.at_+s.cap) then vF s (xE t e 1) e os (wr (e.at_+s.cap)) else t:=by simp only[qF,c]
   simp only[szT,c,szO] at G
   refine zf Tryz.f64 [] 28 rfl rfl rfl rfl rfl rfl (by decide) (hex) λB=>?_
   simp only[go_sem,k3,zM]
   refine zd (c90 h i j s a x y o e k3 w) ?_
   rintro _ L ⟨rfl,m⟩
   subst m
   simp only[go_sem]
   refine ways (λn=>?_) (λn=>?_)
   ·have b:at_>wr (e.at_+s.cap):=of_decide_eq_true n
    rw[if_pos b] at d
    simp only[go_sem,k3,w]
    refine zd (c85 F h0 L i s a t e 1 g (by omega)) ?_
    rintro _ z ⟨rfl,q⟩
    have H:=q
    obtain ⟨P,N,V,O,x',y',C,Q,S,u⟩:=H
    have f:(xE t e 1).open_=some (e,os):=c
    rw[f] at u
    obtain ⟨A,o',J,rfl,l,E⟩:=u
    simp only[go_sem]
    refine zd (c90 z i A s a x' y' o' e C l) ?_
    rintro _ D ⟨rfl,m⟩
    subst m
    simp only[go_sem]
    refine zd (c86 F h0 _ i s a _ e os _ q f (by simp only[xE];omega)) ?_
    rintro _ D ⟨rfl,I⟩
    simp only[go_sem]
    exact ⟨.tup [],by simp only[go_sem],.inl ⟨rfl,by rw[d];exact I⟩⟩
   ·have b:¬ at_>wr (e.at_+s.cap):=of_decide_eq_false n
    rw[if_neg b] at d
    rw[d]
    simp only[go_sem]
    exact ⟨.tup [],by simp only[go_sem],.inl ⟨rfl,g⟩⟩
theorem c56 (F:List (Nat × List AV)) (h0 h:List Ob) (i:Nat) (s:Setup) (a:SA) (t:TellS) (e:Ev) (ht:TellIn F h0 h i s a t) (hl:szT t+8<1099511627776):
  ACalls Tryz.prog 63 [.ptr i 0,evV e] h λr h'=>r= .tup []/\TellIn F h0 h' i s a (Zr s t e):=by
 have hex:=TellIn.ex ht (Zr s t e)
 obtain ⟨u,hu⟩:∃u,u=qF s t e.at_:=⟨_,rfl⟩
 have S:=Qr (s:=s) (t:=t) (at_:=e.at_)
 rw[<-hu] at S
 unfold Zr at hex⊢
 rw[<-hu] at hex⊢
 refine zf Tryz.f63 [] 69 rfl rfl rfl rfl rfl rfl (by decide) (hex) λB=>?_
 have W:∀M,(h++ .box 73 (evC e)::M)[h.length]? =some (.box 73 (evC e)):=λM=>by rw[zm rfl];rfl
 simp only[go_sem,W]
 refine zd (c58 ((h.length,evC e)::F) h0 _ i s a t e.at_ (ht.keep e) (by omega)) ?_
 rintro _ b ⟨rfl,q⟩
 rw[<-hu] at q
 have m:b[h.length]? =some (.box 73 (evC e)):=q.kept _ List.mem_cons_self
 have D:∀M,(b++M)[h.length]? =some (.box 73 (evC e)):=λM=>zb m
 have q':=q
 obtain ⟨k1,k2,kf,p,x,y,k3,k4,k5,k6⟩:=q'
 have hb:∀M,(b++M)[i]? =some (.box 129 (xT s a p x y)):=λM=>zb k3
 have T:∀M o,(b++M).set i o=b.set i o++M:=λM o=>zX k3
 have A:Kept F b:=λz R=>kf z (List.mem_cons_of_mem _ R)
 have J:=k1.len
 simp only[go_sem,m]
 refine ways (λE=>?_) (λE=>?_)
 ·have E:e.kind=1:=by simpa using E
  rw[if_pos E]
  cases d:u.open_ with
  | none=>
    rw[d] at k6
    have k6:p= .v (.pointer none):=k6
    subst k6
    simp only[go_sem,m,k3,hb,T,D]
    exact ⟨.tup [],by simp only[go_sem],.inl ⟨rfl,(k1.set k2 rfl).app (zj rfl),k2,(A.set_box k3 (by decide) _).app _,_,_,_,zb (zh k3),(k4.set_box k3 _).app _,(k5.set_box k3 _).app _,b.length,_,J,rfl,by rw[zm (by simp)];rfl,.inl ⟨rfl,rfl⟩⟩⟩
  | some z=>
    obtain ⟨f,os⟩:=z
    rw[d] at k6
    obtain ⟨j,o,L,rfl,c,j4⟩:=k6
    have g:szT u=u.segs.length+u.flags.length+(os.length+1):=by simp only[szT,d,szO]
    simp only[go_sem,k3,c]
    refine zd (c85 _ h0 b i s a u f 2 q (by omega)) ?_
    rintro _ O ⟨rfl,I⟩
    have X:O[h.length]? =some (.box 73 (evC e)):=I.kept _ List.mem_cons_self
    simp only[go_sem,X]
    refine zd (c86 _ h0 O i s a _ f os e.at_ I d (by simp only[xE];omega)) ?_
    rintro _ G ⟨rfl,q3⟩
    have P:G[h.length]? =some (.box 73 (evC e)):=q3.kept _ List.mem_cons_self
    obtain ⟨m1,m2,mf,p',x',y',H,m4,m5,m6⟩:=q3
    have n:∀M,(G++M)[i]? =some (.box 129 (xT s a p' x' y')):=λM=>zb H
    have C:∀M o,(G++M).set i o=G.set i o++M:=λM o=>zX H
    have V:Kept F G:=λz R=>mf z (List.mem_cons_of_mem _ R)
    simp only[go_sem,P,n,C]
    exact ⟨.tup [],by simp only[go_sem],.inl ⟨rfl,(m1.set m2 rfl).app (zj rfl),m2,(V.set_box H (by decide) _).app _,_,_,_,zb (zh H),(m4.set_box H _).app _,(m5.set_box H _).app _,G.length,_,m1.len,rfl,by rw[zm (by simp)];rfl,.inl ⟨rfl,rfl⟩⟩⟩
 ·have E:¬ e.kind=1:=by simpa using E
  rw[if_neg E]
  cases d:u.open_ with
  | none=>
    rw[d] at k6
    have k6:p= .v (.pointer none):=k6
    subst k6
    have g:szT u=u.segs.length+u.flags.length+0:=by simp only[szT,d,szO]
    simp only[go_sem,m,k3]
    refine zd (c85 _ h0 b i s a u e 3 q (by omega)) ?_
    rintro _ O ⟨rfl,I⟩
    simp only[go_sem]
    exact ⟨.tup [],by simp only[go_sem],.inl ⟨rfl,I.drop⟩⟩
  | some z=>
    obtain ⟨f,os⟩:=z
    rw[d] at k6
    obtain ⟨j,o,L,rfl,c,j4⟩:=k6
    have g:szT u=u.segs.length+u.flags.length+(os.length+1):=by simp only[szT,d,szO]
    simp only[go_sem,k3,c,m]
    refine ways (λw=>?_) (λw=>?_)
    ·have w:e.kind=2:=by simpa using w
     simp only[go_sem,m]
     refine zd (c86 _ h0 b i s a u f os e.at_ q d (by omega)) ?_
     rintro _ O ⟨rfl,I⟩
     simp only[go_sem]
     exact ⟨.tup [],by simp only[go_sem],.inl ⟨rfl,by simp only[if_pos w];exact I.drop⟩⟩
    ·have w:¬ e.kind=2:=by simpa using w
     simp only[if_neg w]
     have K:∀M,(b++M)[j]? =some (.box 216 (WQ f o)):=λM=>zb c
     have N:∀M o,(b++M).set j o=b.set j o++M:=λM o=>zX c
     have d1:=jQ c k3 (by decide)
     rcases j4 with ⟨rfl,hn⟩ | ⟨id,st,r1,rfl,l⟩
     ·simp only[go_sem]
      refine zp rfl [.res] 1 [(0,0,[]),(1,0,[]),(2,0,[]),(4,0,[]),(5,0,[]),(6,0,[]),(3,0,[]),(7,0,[]),(8,0,[]),(9,0,[]),(10,0,[]),(11,0,[]),(12,0,[]),(13,0,[3]),(14,0,[]),(15,0,[]),(16,0,[])] rfl (by decide) (by decide) ?_
      simp only[go_sem,m,D,k3,c,hb,T,K,N]
      refine ⟨.tup [],by simp only[go_sem],.inl ⟨rfl,(k1.set L rfl).app (zg rfl (zj rfl)),k2,(A.set_box c (by decide) _).app _,.ptr j 0,x,y,zb (by rw[List.getElem?_set_ne d1];exact k3),(k4.set_box c _).app _,(k5.set_box c _).app _,j,.tl (b.length+1) 0,L,rfl,zb (zh c),.inr ⟨b.length+1,0,by omega,rfl,?_⟩⟩⟩
      rw[zl (by simp),List.map_append,hn]
      rfl
     ·have hid:∀M,(b++M)[id]? =some (.row 73 11 (os.map evC) st):=λM=>zb l
      have C:∀M o,(b++M).set id o=b.set id o++M:=λM o=>zX l
      have k:∀ {j u:Nat} {cs:List AV},b[j]? =some (.box u cs)->∀o,(b.set id o)[j]? =some (.box u cs):=λK o=>by
       rw[List.getElem?_set_ne (λq=>by rw[q,K] at l;cases l)];exact K
      have Z:∀M o,(b.set id o++M)[j]? =_:=λM o=>zb (k c o)
      have n:∀M o,(b.set id o++M)[i]? =_:=λM o=>zb (k k3 o)
      have Y:∀M o o2,(b.set id o++M).set j o2=(b.set id o).set j o2++M:=λM o o2=>zX (k c o)
      have U:∀M o,(b.set id o++M)[h.length]? =_:=λM o=>zb (k m o)
      have δ:j≠id:=λq=>by rw[q,l] at c;cases c
      have g:szT u=u.segs.length+u.flags.length+(os.length+1):=by simp only[szT,d,szO]
      have Q:((os.map evC).length+1)*89<=140737488355328:=by rw[List.length_map];omega
      simp only[go_sem]
      refine zp rfl [.res] 1 [(0,0,[]),(1,0,[]),(2,0,[]),(4,0,[]),(5,0,[]),(6,0,[]),(3,0,[]),(7,0,[]),(8,0,[]),(9,0,[]),(10,0,[]),(11,0,[]),(12,0,[]),(13,0,[3]),(14,0,[]),(15,0,[]),(16,0,[])] rfl (by decide) (by decide) ?_
      simp only[go_sem,m,D,k3,c,hb,T,K,N,hid,C,Z,n,Y,U,Q]
      refine ⟨.tup [],by simp only[go_sem],.inl ⟨rfl,((k1.set r1 rfl).set L rfl).app (zj rfl),k2,((A.set_row l _).set_box (k c _) (by decide) _).app _,.ptr j 0,x,y,zb (by rw[List.getElem?_set_ne d1];exact k k3 _),((k4.set_row l (by decide) _).set_box (k c _) _).app _,((k5.set_row l (by decide) _).set_box (k c _) _).app _,j,.tl id (st+1),L,rfl,zb (zh (k c _)),.inr ⟨id,st+1,r1,rfl,zb ?_⟩⟩⟩
      rw[List.getElem?_set_ne δ,zh l,List.map_append]
      rfl
set_option maxRecDepth 100000
def QR (s:Setup) (w:Int) (e:Ev):Bool:=(e.worker==w && e.kind != 7) && yL s e
def yr (s:Setup) (w:Int) (t:TellS) (e:Ev):TellS:=if QR s w e then Zr s t e else t
def goP (s:Setup) (w:Int) (l:List Ev):TellS:=l.foldl (yr s w) ⟨none,[],[]⟩
def zR (s:Setup) (l:List Ev) (w:Int):List Seg × List Flg:=if zz s then ((qF s (goP s w (zC l)) 32054400).segs,(qF s (goP s w (zC l)) 32054400).flags) else ([],[])
theorem kva {s:Setup} {w:Int} {t:TellS} {e:Ev}:szT (yr s w t e)<=szT t+3:=by
 unfold yr
 split
 ·exact kua
 ·omega
theorem zra {s:Setup} {w:Int} (l:List Ev):∀ {t:TellS},szT (l.foldl (yr s w) t)<=szT t+3*l.length:=by
 induction l with
 | nil=>intro t;simp
 | cons x l a=>
   intro t
   rw[List.foldl_cons]
   have c:=a (t:=yr s w t x)
   have b:=kva (s:=s) (w:=w) (t:=t) (e:=x)
   rw[List.length_cons]
   omega
def New (h:List Ob) (e:Nat) (x:AV) (rows:List (List AV)) (L:List Ob):Prop:=∀a:List Ob,a.length=h.length->SlOf (a++L) x e rows
theorem OwnS.new {h0 h L:List Ob} {ty e:Nat} {x:AV} {rows:List (List AV)} (k:OwnS h0 (h++L) ty e x rows) (c:h.length<=h0.length):New h e x rows L:=λb a=>by
 rcases k with ⟨rfl,rfl⟩ | ⟨id,st,k1,rfl,k3⟩
 ·exact ⟨rfl,λh=>absurd rfl h⟩
 ·have:(b++L)[id]? =some (.row ty e rows st):=by
   rw[List.getElem?_append_right (by omega)] at k3⊢
   rw[a]
   exact k3
  refine ⟨?_,λ_=>?_⟩
  ·rw[zO,this,xC,if_pos rfl]
  ·rw[qJ,this,vh]
theorem c21 (h:List Ob) (s:Setup) (a:SA) (k:SIn h s a) (f:SFit s) (x:AV) (l:List Ev) (w:Int) (hx:SlOf h x 11 (l.map evC)) (hl:l.length<1048576):
  ACalls Tryz.prog 22 [qh s a,x,i64 w] h λr h'=>∃L y z,h'=h++L/\NoRes L/\r= .tup [y,z]/\New h 5 y ((zR s l w).1.map j7) L/\New h 2 z ((zR s l w).2.map xI) L:=by
 have hex:∃r h',(∃L y z,h'=h++L/\NoRes L/\r=AV.tup [y,z]/\New h 5 y ((zR s l w).1.map j7) L/\New h 2 z ((zR s l w).2.map xI) L)/\ResK h h':=
  ⟨_,_,⟨[],.sl 5 _,.sl 2 _,rfl,jF,rfl,λ_ _=>⟨rfl,λ_=>rfl⟩,λ_ _=>⟨rfl,λ_=>rfl⟩⟩,zT⟩
 refine zf Tryz.f22 [.tmp 6,.tmp 7] 55 rfl rfl rfl rfl rfl rfl (by decide) (hex) λB=>?_
 simp only[go_sem,k.w.one,k.e.one,k.c.one,k.g.one,k.r.one,k.t.one]
 refine zd (c16 _ s a (k.app _) f) ?_
 rintro _ h1 ⟨rfl,e2⟩
 subst e2
 simp only[go_sem]
 refine ways (λe=>?_) (λe=>?_)
 ·have R:zz s=false:=by simpa using e
  simp only[go_sem]
  refine ⟨.tup [.v (.slice none 0 0),.v (.slice none 0 0)],by simp only[go_sem],.inl ⟨_,_,_,rfl,zj rfl,rfl,?_,?_⟩⟩
  ·rw[zR,R];exact λ_ _=>⟨rfl,λh=>absurd rfl h⟩
  ·rw[zR,R];exact λ_ _=>⟨rfl,λh=>absurd rfl h⟩
 ·have R:zz s=true:=by simpa using e
  simp only[Xf,VB]
  rw[qQ,qQ,Qc,qQ]
  have J:=qB l
  have k0:SIn (h++[.box 30 (zr s a)]) s a:=k.app _
  have hs:zR s l w=((qF s (goP s w (zC l)) 32054400).segs,(qF s (goP s w (zC l)) 32054400).flags):=by rw[zR,R];rfl
  obtain ⟨h0,j⟩:∃h0,h0=h++[.box 30 (zr s a)]:=⟨_,rfl⟩
  have S:h0.length=h.length+1:=by rw[j];simp
  refine wT (λT h'=>TellIn [] h0 h' (h.length+1) s a ⟨none,[],[]⟩/\T 2=i64 w/\T 3= .ptr h.length 0/\T 8= .ptr (h.length+1) 0/\T 9= .fn (.func 63) [.ptr (h.length+1) 0] []/\T 22=i64 l.length/\T 23=i64 0/\((zC l=[]/\T 21= .v (.slice none 0 0))∨(∃id st,T 21= .tl id st/\h'[id]? =some (zV (zC l) st)/\h0.length<=id))) ?_ ?_
  ·simp only[go_sem,k.w.one,k.e.one,k.c.one,k.g.one,k.r.one,k.t.one]
   have F:TellIn [] h0 (h0++[.box 129 (xT s a (.v (.pointer none)) (.v (.slice none 0 0)) (.v (.slice none 0 0)))]) (h.length+1) s a ⟨none,[],[]⟩:=
    ⟨Pre.refl.app (zj rfl),by omega,(λ_ h=>by cases h),_,_,_,by rw[<-S,zm rfl];rfl,.inl ⟨rfl,rfl⟩,.inl ⟨rfl,rfl⟩,rfl⟩
   rw[j,List.append_assoc] at F
   refine zd (c57 _ x l (hx.app _) (by omega)) ?_
   rintro r W (⟨rfl,rfl,rfl⟩ | ⟨rfl,rfl⟩)
   ·simp only[go_sem,List.length_nil]
    rw[j]
    exact ⟨F,.inl rfl⟩
   ·have hg:∀M,(h++ .box 30 (zr s a):: .box 129 (xT s a (.v (.pointer none)) (.v (.slice none 0 0)) (.v (.slice none 0 0)))::zV (zC l) 1::M)[h.length+2]? =some (zV (zC l) 1):=λM=>by rw[zl rfl];rfl
    simp only[go_sem,hg,List.length_map,J]
    have P:=F.app (M:=[zV (zC l) 1]) (zj rfl)
    rw[List.append_assoc, <-j] at P
    exact ⟨P,.inr ⟨_,_,rfl,by rw[zl rfl];rfl,by omega⟩⟩
  ·rintro T h' ⟨o,t2,t3,t8,t9,t22,b,Q⟩
   simp only[go_sem]
   refine zpa (λT h'=>∃y,(∀h4:List Ob,SlOf h4 y 11 ((zC l).map evC))/\TellIn [] h0 h' (h.length+1) s a ⟨none,[],[]⟩/\T 2=i64 w/\T 3= .ptr h.length 0/\T 8= .ptr (h.length+1) 0/\T 9= .fn (.func 63) [.ptr (h.length+1) 0] []/\T 21=y/\T 22=i64 l.length/\T 23=i64 0) (λK=>?_) ?_
   ·rcases Q with ⟨hn,d⟩ | ⟨id,st,d,hr,V⟩
    ·exact K _ _ ⟨_,λh4=>by rw[hn];exact ⟨rfl,λh=>absurd rfl h⟩,o,t2,t3,t8,t9,d,t22,b⟩
    ·exact YQ 21 d hr (K _ _ ⟨.sl 11 ((zC l).map evC),λh4=>⟨rfl,λ_=>rfl⟩,o.gone hr V rfl,by simp only[go_sem,t2],by simp only[go_sem,t3],by simp only[go_sem,t8],by simp only[go_sem,t9],by simp only[go_sem],by simp only[go_sem,t22],by simp only[go_sem,b]⟩)
   clear o t2 t3 t8 t9 t22 b Q
   rintro T h' ⟨y,Q,o,t2,t3,t8,t9,d,t22,b⟩
   refine zk (by decide) (λm T h'=>∃k:Nat,k<=l.length/\TellIn [] h0 h' (h.length+1) s a (goP s w ((zC l).take k))/\T 2=i64 w/\T 3= .ptr h.length 0/\T 8= .ptr (h.length+1) 0/\T 9= .fn (.func 63) [.ptr (h.length+1) 0] []/\T 21=y/\T 22=i64 l.length/\T 23=i64 k/\m=l.length - k) l.length
    ⟨0,by omega,o,t2,t3,t8,t9,d,t22,b,rfl⟩ ?_
   clear o t2 t3 t8 t9 d t22 b
   rintro m T h' ⟨k,hk,o,t2,t3,t8,t9,d,t22,b,rfl⟩
   simp only[go_sem,t22,b]
   have N:szT (goP s w ((zC l).take k))<=szT ⟨none,[],[]⟩+3*((zC l).take k).length:=zra ((zC l).take k)
   rw[List.length_take] at N
   have δ:szT ⟨none,[],[]⟩=0:=rfl
   have U:h'[h.length]? =some (.box 30 (zr s a)):=by
    obtain ⟨L,hL,_⟩:=o.pre
    rw[hL,j]
    exact zb (by simp)
   refine ways (λe=>?_) (λe=>?_)
   ·have υ:=dlt e
    have p:k<(zC l).length:=by omega
    have E:=(Q h').at (i:=k) (by simpa using p)
    have D:=(Q h').rows
    have n:((zC l).map evC)[k]? =some (evC (zC l)[k]):=qD (List.getElem?_eq_getElem p)
    have G:(k:Int)<(zC l).length:=by omega
    obtain ⟨ev,O⟩:∃ev,ev=(zC l)[k]:=⟨_,rfl⟩
    rw[<-O] at n
    have u:goP s w ((zC l).take (k+1))=yr s w (goP s w ((zC l).take k)) ev:=by
     rw[goP, <-List.take_append_getElem p,List.foldl_append,O]
     rfl
    have C:∀M,(h'++M)[h.length]? =some (.box 30 (zr s a)):=λM=>zb U
    have hA:List.length (evC ev)=11:=rfl
    have skip:QR s w ev=false->TellIn [] h0 (h'++[.box 73 (evC ev)]) (h.length+1) s a (goP s w ((zC l).take (k+1))):=λq=>by
     rw[u,yr,q]
     exact o.app (zj rfl)
    have fin:k+1<=l.length:=by omega
    by_cases q1:ev.worker=w
    ·have A:(ev.worker==w)=true:=by simpa using q1
     by_cases q2:ev.kind=7
     ·have H:(ev.kind != 7)=false:=by simpa using q2
      simp only[go_sem,d,b,E,D,n,G,List.length_map,Int.toNat_natCast,Int.natCast_nonneg,t2,C,A,H,zM]
      exact ⟨l.length - (k+1),by omega,k+1,fin,skip (by simp only[QR,A,H];rfl),t3,t8,t9,t22,zy (by omega) rfl,rfl⟩
     ·have H:(ev.kind != 7)=true:=by simpa using q2
      simp only[go_sem,t3,d,b,E,D,n,G,List.length_map,Int.toNat_natCast,Int.natCast_nonneg,t2,C,A,H,zM]
      refine zd (c14 _ s a ((o.app (zj rfl)).pre.sin (j▸k0)) ev) ?_
      rintro _ W ⟨rfl,e3⟩
      subst e3
      simp only[go_sem]
      refine ways (λZ=>?_) (λZ=>?_)
      ·have I:QR s w ev=true:=by simp only[QR,A,H];exact Z
       simp only[go_sem,t9]
       refine zd (c56 [] h0 _ _ s a _ ev (o.app (zj rfl)) (by omega)) ?_
       rintro _ W ⟨rfl,q⟩
       simp only[go_sem,b]
       refine ⟨l.length - (k+1),by omega,k+1,fin,?_,t2,t3,t8,t9,d,t22,zy (by omega) rfl,rfl⟩
       rw[u,yr,I]
       exact q
      ·simp only[go_sem,b]
       exact ⟨l.length - (k+1),by omega,k+1,fin,skip (by simp only[QR,A,H];exact Z),t2,t3,t8,t9,d,t22,zy (by omega) rfl,rfl⟩
    ·have A:(ev.worker==w)=false:=by simpa using q1
     simp only[go_sem,d,b,E,D,n,G,List.length_map,Int.toNat_natCast,Int.natCast_nonneg,t2,C,A,zM]
     exact ⟨l.length - (k+1),by omega,k+1,fin,skip (by simp only[QR,A];rfl),t3,t8,t9,t22,zy (by omega) rfl,rfl⟩
   ·have τ:=jd e
    have Y:k=(zC l).length:=by omega
    subst Y
    rw[List.take_length] at o N
    simp only[go_sem,t8]
    refine zd (c58 [] h0 h' _ s a _ 32054400 o (by omega)) ?_
    rintro _ W ⟨rfl,q⟩
    obtain ⟨m1,m2,mf,p',x',y',X,m4,m5,m6⟩:=q
    obtain ⟨L,hL,hN⟩:=m1
    subst hL
    rw[j,List.append_assoc] at X m4 m5
    rw[j,List.append_assoc]
    rw[zl rfl] at X
    have γ:L[0]? =some (.box 129 (xT s a p' x' y')):=X
    simp only[go_sem]
    refine zp rfl [] 0 [(0,0,[]),(1,0,[]),(2,0,[]),(4,0,[]),(5,0,[]),(6,0,[]),(3,0,[]),(8,0,[]),(7,0,[]),(9,0,[])] rfl (by decide) (by decide) ?_
    simp only[go_sem,t8,γ]
    refine ⟨.tup [x',y'],by simp only[go_sem],.inl ⟨_,_,_,rfl,zg rfl hN,rfl,?_,?_⟩⟩
    ·rw[hs];exact m4.new (by rw[List.length_append];omega)
    ·rw[hs];exact m5.new (by rw[List.length_append];omega)
end Go.Proofs.YtfmldcilgbbimaaGreat.Ax
