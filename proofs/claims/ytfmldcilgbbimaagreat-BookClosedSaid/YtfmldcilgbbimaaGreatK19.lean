/-
  Joined.
-/
import Derived.Test.YtfmldcilgbbimaaGreatK18
import Derived.Test.YtfmldcilgbbimaaGreatK14
set_option linter.unusedSimpArgs false
set_option linter.unusedVariables false
namespace Go.Proofs.YtfmldcilgbbimaaGreat.Ax
open Go Go.Proofs
set_option maxRecDepth 100000
theorem c58 (F:List (Nat × List AV)) (h0 h:List Ob) (i:Nat) (s:Setup) (a:SA) (t:TellS) (at_:Int) (f:TellIn F h0 h i s a t) (E:szT t+2<1099511627776):
  ACalls Tryz.prog 64 [.ptr i 0,i64 at_] h λr h'=>r= .tup []/\TellIn F h0 h' i s a (lateP s t at_):=by
 have hex:=TellIn.ex f (lateP s t at_)
 have l:=f
 obtain ⟨k1,k2,V,p,x,y,k3,k4,k5,k6⟩:=l
 have H:∀M,(h++M)[i]? =some (.box 129 (vh s a p x y)):=λM=>zb k3
 cases c:t.open_ with
 | none=>
   rw[c] at k6
   have k6:p= .v (.pointer none):=k6
   subst k6
   have d:lateP s t at_=t:=by simp only[lateP,c]
   rw[d] at hex⊢
   refine zf Tryz.f64 [] 28 rfl rfl rfl rfl rfl rfl (by decide) (hex) λB=>?_
   simp only[go_sem,H,k3]
   exact ⟨.tup [],by simp only[go_sem],.inl ⟨rfl,f⟩⟩
 | some q=>
   obtain ⟨e,os⟩:=q
   rw[c] at k6
   obtain ⟨j,o,S,rfl,u,Q⟩:=k6
   have d:lateP s t at_=if at_>wr (e.at_+s.cap) then xF s (js t e 1) e os (wr (e.at_+s.cap)) else t:=by simp only[lateP,c]
   simp only[szT,c,szO] at E
   refine zf Tryz.f64 [] 28 rfl rfl rfl rfl rfl rfl (by decide) (hex) λB=>?_
   simp only[go_sem,k3,zJ]
   refine zc (c90 h i j s a x y o e k3 u) ?_
   rintro _ J ⟨rfl,k⟩
   subst k
   simp only[go_sem]
   refine ways (λn=>?_) (λn=>?_)
   ·have b:at_>wr (e.at_+s.cap):=of_decide_eq_true n
    rw[if_pos b] at d
    simp only[go_sem,k3,u]
    refine zc (c85 F h0 J i s a t e 1 f (by omega)) ?_
    rintro _ C ⟨rfl,q⟩
    have z:=q
    obtain ⟨N,U,R,O,x',y',A,T,P,w⟩:=z
    have g:(js t e 1).open_=some (e,os):=c
    rw[g] at w
    obtain ⟨G,o',K,rfl,m,I⟩:=w
    simp only[go_sem]
    refine zc (c90 C i G s a x' y' o' e A m) ?_
    rintro _ L ⟨rfl,k⟩
    subst k
    simp only[go_sem]
    refine zc (c86 F h0 _ i s a _ e os _ q g (by simp only[js];omega)) ?_
    rintro _ L ⟨rfl,D⟩
    simp only[go_sem]
    exact ⟨.tup [],by simp only[go_sem],.inl ⟨rfl,by rw[d];exact D⟩⟩
   ·have b:¬ at_>wr (e.at_+s.cap):=of_decide_eq_false n
    rw[if_neg b] at d
    rw[d]
    simp only[go_sem]
    exact ⟨.tup [],by simp only[go_sem],.inl ⟨rfl,f⟩⟩
theorem c56 (F:List (Nat × List AV)) (h0 h:List Ob) (i:Nat) (s:Setup) (a:SA) (t:TellS) (e:Ev) (ht:TellIn F h0 h i s a t) (hl:szT t+8<1099511627776):
  ACalls Tryz.prog 63 [.ptr i 0,evV e] h λr h'=>r= .tup []/\TellIn F h0 h' i s a (xw s t e):=by
 have hex:=TellIn.ex ht (xw s t e)
 obtain ⟨u,S⟩:∃u,u=lateP s t e.at_:=⟨_,rfl⟩
 have R:=Xc (s:=s) (t:=t) (at_:=e.at_)
 rw[<-S] at R
 unfold xw at hex⊢
 rw[<-S] at hex⊢
 refine zf Tryz.f63 [] 69 rfl rfl rfl rfl rfl rfl (by decide) (hex) λB=>?_
 have Y:∀M,(h++ .box 73 (evC e)::M)[h.length]? =some (.box 73 (evC e)):=λM=>by rw[zo rfl];rfl
 simp only[go_sem,Y]
 refine zc (c58 ((h.length,evC e)::F) h0 _ i s a t e.at_ (ht.keep e) (by omega)) ?_
 rintro _ b ⟨rfl,q⟩
 rw[<-S] at q
 have l:b[h.length]? =some (.box 73 (evC e)):=q.kept _ List.mem_cons_self
 have D:∀M,(b++M)[h.length]? =some (.box 73 (evC e)):=λM=>zb l
 have q':=q
 obtain ⟨k1,k2,kf,p,x,y,k3,k4,k5,k6⟩:=q'
 have Z:∀M,(b++M)[i]? =some (.box 129 (vh s a p x y)):=λM=>zb k3
 have T:∀M o,(b++M).set i o=b.set i o++M:=λM o=>qd k3
 have n:Kept F b:=λz hz=>kf z (List.mem_cons_of_mem _ hz)
 have N:=k1.len
 simp only[go_sem,l]
 refine ways (λA=>?_) (λA=>?_)
 ·have A:e.kind=1:=by simpa using A
  rw[if_pos A]
  cases d:u.open_ with
  | none=>
    rw[d] at k6
    have k6:p= .v (.pointer none):=k6
    subst k6
    simp only[go_sem,l,k3,Z,T,D]
    exact ⟨.tup [],by simp only[go_sem],.inl ⟨rfl,(k1.set k2 rfl).app (zi rfl),k2,(n.set_box k3 (by decide) _).app _,_,_,_,zb (zh k3),(k4.set_box k3 _).app _,(k5.set_box k3 _).app _,b.length,_,N,rfl,by rw[zo (by simp)];rfl,.inl ⟨rfl,rfl⟩⟩⟩
  | some z=>
    obtain ⟨f,os⟩:=z
    rw[d] at k6
    obtain ⟨j,o,L,rfl,c,j4⟩:=k6
    have g:szT u=u.segs.length+u.flags.length+(os.length+1):=by simp only[szT,d,szO]
    simp only[go_sem,k3,c]
    refine zc (c85 _ h0 b i s a u f 2 q (by omega)) ?_
    rintro _ O ⟨rfl,H⟩
    have Q:O[h.length]? =some (.box 73 (evC e)):=H.kept _ List.mem_cons_self
    simp only[go_sem,Q]
    refine zc (c86 _ h0 O i s a _ f os e.at_ H d (by simp only[js];omega)) ?_
    rintro _ I ⟨rfl,q3⟩
    have δ:I[h.length]? =some (.box 73 (evC e)):=q3.kept _ List.mem_cons_self
    obtain ⟨m1,m2,mf,p',x',y',G,m4,m5,m6⟩:=q3
    have w:∀M,(I++M)[i]? =some (.box 129 (vh s a p' x' y')):=λM=>zb G
    have E:∀M o,(I++M).set i o=I.set i o++M:=λM o=>qd G
    have P:Kept F I:=λz hz=>mf z (List.mem_cons_of_mem _ hz)
    simp only[go_sem,δ,w,E]
    exact ⟨.tup [],by simp only[go_sem],.inl ⟨rfl,(m1.set m2 rfl).app (zi rfl),m2,(P.set_box G (by decide) _).app _,_,_,_,zb (zh G),(m4.set_box G _).app _,(m5.set_box G _).app _,I.length,_,m1.len,rfl,by rw[zo (by simp)];rfl,.inl ⟨rfl,rfl⟩⟩⟩
 ·have A:¬ e.kind=1:=by simpa using A
  rw[if_neg A]
  cases d:u.open_ with
  | none=>
    rw[d] at k6
    have k6:p= .v (.pointer none):=k6
    subst k6
    have g:szT u=u.segs.length+u.flags.length+0:=by simp only[szT,d,szO]
    simp only[go_sem,l,k3]
    refine zc (c85 _ h0 b i s a u e 3 q (by omega)) ?_
    rintro _ O ⟨rfl,H⟩
    simp only[go_sem]
    exact ⟨.tup [],by simp only[go_sem],.inl ⟨rfl,H.drop⟩⟩
  | some z=>
    obtain ⟨f,os⟩:=z
    rw[d] at k6
    obtain ⟨j,o,L,rfl,c,j4⟩:=k6
    have g:szT u=u.segs.length+u.flags.length+(os.length+1):=by simp only[szT,d,szO]
    simp only[go_sem,k3,c,l]
    refine ways (λC=>?_) (λC=>?_)
    ·have C:e.kind=2:=by simpa using C
     simp only[go_sem,l]
     refine zc (c86 _ h0 b i s a u f os e.at_ q d (by omega)) ?_
     rintro _ O ⟨rfl,H⟩
     simp only[go_sem]
     exact ⟨.tup [],by simp only[go_sem],.inl ⟨rfl,by simp only[if_pos C];exact H.drop⟩⟩
    ·have C:¬ e.kind=2:=by simpa using C
     simp only[if_neg C]
     have K:∀M,(b++M)[j]? =some (.box 216 (qQa f o)):=λM=>zb c
     have J:∀M o,(b++M).set j o=b.set j o++M:=λM o=>qd c
     have d1:=xD c k3 (by decide)
     rcases j4 with ⟨rfl,hn⟩ | ⟨id,st,r1,rfl,m⟩
     ·simp only[go_sem]
      refine zn rfl [.res] 1 [(0,0,[]),(1,0,[]),(2,0,[]),(4,0,[]),(5,0,[]),(6,0,[]),(3,0,[]),(7,0,[]),(8,0,[]),(9,0,[]),(10,0,[]),(11,0,[]),(12,0,[]),(13,0,[3]),(14,0,[]),(15,0,[]),(16,0,[])] rfl (by decide) (by decide) ?_
      simp only[go_sem,l,D,k3,c,Z,T,K,J]
      refine ⟨.tup [],by simp only[go_sem],.inl ⟨rfl,(k1.set L rfl).app (zg rfl (zi rfl)),k2,(n.set_box c (by decide) _).app _,.ptr j 0,x,y,zb (by rw[List.getElem?_set_ne d1];exact k3),(k4.set_box c _).app _,(k5.set_box c _).app _,j,.tl (b.length+1) 0,L,rfl,zb (zh c),.inr ⟨b.length+1,0,by omega,rfl,?_⟩⟩⟩
      rw[zm (by simp),List.map_append,hn]
      rfl
     ·have hid:∀M,(b++M)[id]? =some (.row 73 11 (os.map evC) st):=λM=>zb m
      have E:∀M o,(b++M).set id o=b.set id o++M:=λM o=>qd m
      have k:∀ {j u:Nat} {cs:List AV},b[j]? =some (.box u cs)->∀o,(b.set id o)[j]? =some (.box u cs):=λK o=>by
       rw[List.getElem?_set_ne (λq=>by rw[q,K] at m;cases m)];exact K
      have X:∀M o,(b.set id o++M)[j]? =_:=λM o=>zb (k c o)
      have w:∀M o,(b.set id o++M)[i]? =_:=λM o=>zb (k k3 o)
      have γ:∀M o U,(b.set id o++M).set j U=(b.set id o).set j U++M:=λM o U=>qd (k c o)
      have V:∀M o,(b.set id o++M)[h.length]? =_:=λM o=>zb (k l o)
      have β:j≠id:=λq=>by rw[q,m] at c;cases c
      have g:szT u=u.segs.length+u.flags.length+(os.length+1):=by simp only[szT,d,szO]
      have W:((os.map evC).length+1)*89<=140737488355328:=by rw[List.length_map];omega
      simp only[go_sem]
      refine zn rfl [.res] 1 [(0,0,[]),(1,0,[]),(2,0,[]),(4,0,[]),(5,0,[]),(6,0,[]),(3,0,[]),(7,0,[]),(8,0,[]),(9,0,[]),(10,0,[]),(11,0,[]),(12,0,[]),(13,0,[3]),(14,0,[]),(15,0,[]),(16,0,[])] rfl (by decide) (by decide) ?_
      simp only[go_sem,l,D,k3,c,Z,T,K,J,hid,E,X,w,γ,V,W]
      refine ⟨.tup [],by simp only[go_sem],.inl ⟨rfl,((k1.set r1 rfl).set L rfl).app (zi rfl),k2,((n.set_row m _).set_box (k c _) (by decide) _).app _,.ptr j 0,x,y,zb (by rw[List.getElem?_set_ne d1];exact k k3 _),((k4.set_row m (by decide) _).set_box (k c _) _).app _,((k5.set_row m (by decide) _).set_box (k c _) _).app _,j,.tl id (st+1),L,rfl,zb (zh (k c _)),.inr ⟨id,st+1,r1,rfl,zb ?_⟩⟩⟩
      rw[List.getElem?_set_ne β,zh m,List.map_append]
      rfl
set_option maxRecDepth 100000
def vS (s:Setup) (w:Int) (e:Ev):Bool:=(e.worker==w && e.kind != 7) && ko s e
def vT (s:Setup) (w:Int) (t:TellS) (e:Ev):TellS:=if vS s w e then xw s t e else t
def goP (s:Setup) (w:Int) (l:List Ev):TellS:=l.foldl (vT s w) ⟨none,[],[]⟩
def zM (s:Setup) (l:List Ev) (w:Int):List Seg × List Flg:=if zw s then ((lateP s (goP s w (zD l)) 32054400).segs,(lateP s (goP s w (zD l)) 32054400).flags) else ([],[])
theorem Zja {s:Setup} {w:Int} {t:TellS} {e:Ev}:szT (vT s w t e)<=szT t+3:=by
 unfold vT
 split
 ·exact Zia
 ·omega
theorem xIa {s:Setup} {w:Int} (l:List Ev):∀ {t:TellS},szT (l.foldl (vT s w) t)<=szT t+3*l.length:=by
 induction l with
 | nil=>intro t;simp
 | cons x l a=>
   intro t
   rw[List.foldl_cons]
   have b:=a (t:=vT s w t x)
   have c:=Zja (s:=s) (w:=w) (t:=t) (e:=x)
   rw[List.length_cons]
   omega
def New (h:List Ob) (e:Nat) (x:AV) (rows:List (List AV)) (L:List Ob):Prop:=∀a:List Ob,a.length=h.length->SlOf (a++L) x e rows
theorem OwnS.new {h0 h L:List Ob} {ty e:Nat} {x:AV} {rows:List (List AV)} (k:OwnS h0 (h++L) ty e x rows) (c:h.length<=h0.length):New h e x rows L:=λb a=>by
 rcases k with ⟨rfl,rfl⟩ | ⟨id,st,k1,rfl,k3⟩
 ·exact ⟨rfl,λh=>absurd rfl h⟩
 ·have:(b++L)[id]? =some (.row ty e rows st):=by
   rw[List.getElem?_append_right (by omega)] at k3⊢
   rw[a]
   exact k3
  refine ⟨?_,λ_=>?_⟩
  ·rw[zX,this,jV,if_pos rfl]
  ·rw[qE,this,km]
theorem c21 (h:List Ob) (s:Setup) (a:SA) (k:SIn h s a) (f:SFit s) (x:AV) (l:List Ev) (w:Int) (hx:SlOf h x 11 (l.map evC)) (hl:l.length<1048576):
  ACalls Tryz.prog 22 [z6 s a,x,i64 w] h λr h'=>∃L y z,h'=h++L/\NoRes L/\r= .tup [y,z]/\New h 5 y ((zM s l w).1.map jo) L/\New h 2 z ((zM s l w).2.map xv) L:=by
 have hex:∃r h',(∃L y z,h'=h++L/\NoRes L/\r=AV.tup [y,z]/\New h 5 y ((zM s l w).1.map jo) L/\New h 2 z ((zM s l w).2.map xv) L)/\ResK h h':=
  ⟨_,_,⟨[],.sl 5 _,.sl 2 _,rfl,qh,rfl,λ_ _=>⟨rfl,λ_=>rfl⟩,λ_ _=>⟨rfl,λ_=>rfl⟩⟩,zR⟩
 refine zf Tryz.f22 [.tmp 6,.tmp 7] 55 rfl rfl rfl rfl rfl rfl (by decide) (hex) λB=>?_
 simp only[go_sem,k.w.one,k.e.one,k.c.one,k.g.one,k.r.one,k.t.one]
 refine zc (c16 _ s a (k.app _) f) ?_
 rintro _ h1 ⟨rfl,e2⟩
 subst e2
 simp only[go_sem]
 refine ways (λe=>?_) (λe=>?_)
 ·have Q:zw s=false:=by simpa using e
  simp only[go_sem]
  refine ⟨.tup [.v (.slice none 0 0),.v (.slice none 0 0)],by simp only[go_sem],.inl ⟨_,_,_,rfl,zi rfl,rfl,?_,?_⟩⟩
  ·rw[zM,Q];exact λ_ _=>⟨rfl,λh=>absurd rfl h⟩
  ·rw[zM,Q];exact λ_ _=>⟨rfl,λh=>absurd rfl h⟩
 ·have Q:zw s=true:=by simpa using e
  simp only[Vv,zla]
  rw[jn,jn,JZ,jn]
  have O:=qT l
  have k0:SIn (h++[.box 30 (zr s a)]) s a:=k.app _
  have hs:zM s l w=((lateP s (goP s w (zD l)) 32054400).segs,(lateP s (goP s w (zD l)) 32054400).flags):=by rw[zM,Q];rfl
  obtain ⟨h0,d⟩:∃h0,h0=h++[.box 30 (zr s a)]:=⟨_,rfl⟩
  have X:h0.length=h.length+1:=by rw[d];simp
  refine Zi (λT h'=>TellIn [] h0 h' (h.length+1) s a ⟨none,[],[]⟩/\T 2=i64 w/\T 3= .ptr h.length 0/\T 8= .ptr (h.length+1) 0/\T 9= .fn (.func 63) [.ptr (h.length+1) 0] []/\T 22=i64 l.length/\T 23=i64 0/\((zD l=[]/\T 21= .v (.slice none 0 0))∨(∃id st,T 21= .tl id st/\h'[id]? =some (qb (zD l) st)/\h0.length<=id))) ?_ ?_
  ·simp only[go_sem,k.w.one,k.e.one,k.c.one,k.g.one,k.r.one,k.t.one]
   have A:TellIn [] h0 (h0++[.box 129 (vh s a (.v (.pointer none)) (.v (.slice none 0 0)) (.v (.slice none 0 0)))]) (h.length+1) s a ⟨none,[],[]⟩:=
    ⟨Pre.refl.app (zi rfl),by omega,(λ_ h=>by cases h),_,_,_,by rw[<-X,zo rfl];rfl,.inl ⟨rfl,rfl⟩,.inl ⟨rfl,rfl⟩,rfl⟩
   rw[d,List.append_assoc] at A
   refine zc (c57 _ x l (hx.app _) (by omega)) ?_
   rintro r h3 (⟨rfl,rfl,rfl⟩ | ⟨rfl,rfl⟩)
   ·simp only[go_sem,List.length_nil]
    rw[d]
    exact ⟨A,.inl rfl⟩
   ·have hg:∀M,(h++ .box 30 (zr s a):: .box 129 (vh s a (.v (.pointer none)) (.v (.slice none 0 0)) (.v (.slice none 0 0)))::qb (zD l) 1::M)[h.length+2]? =some (qb (zD l) 1):=λM=>by rw[zm rfl];rfl
    simp only[go_sem,hg,List.length_map,O]
    have H:=A.app (M:=[qb (zD l) 1]) (zi rfl)
    rw[List.append_assoc, <-d] at H
    exact ⟨H,.inr ⟨_,_,rfl,by rw[zm rfl];rfl,by omega⟩⟩
  ·rintro T h' ⟨n,t2,t3,t8,t9,t22,t23,P⟩
   simp only[go_sem]
   refine xGa (λT h'=>∃y,(∀h4:List Ob,SlOf h4 y 11 ((zD l).map evC))/\TellIn [] h0 h' (h.length+1) s a ⟨none,[],[]⟩/\T 2=i64 w/\T 3= .ptr h.length 0/\T 8= .ptr (h.length+1) 0/\T 9= .fn (.func 63) [.ptr (h.length+1) 0] []/\T 21=y/\T 22=i64 l.length/\T 23=i64 0) (λK=>?_) ?_
   ·rcases P with ⟨hn,b⟩ | ⟨id,st,b,hr,Y⟩
    ·exact K _ _ ⟨_,λh4=>by rw[hn];exact ⟨rfl,λh=>absurd rfl h⟩,n,t2,t3,t8,t9,b,t22,t23⟩
    ·exact xca 21 b hr (K _ _ ⟨.sl 11 ((zD l).map evC),λh4=>⟨rfl,λ_=>rfl⟩,n.gone hr Y rfl,by simp only[go_sem,t2],by simp only[go_sem,t3],by simp only[go_sem,t8],by simp only[go_sem,t9],by simp only[go_sem],by simp only[go_sem,t22],by simp only[go_sem,t23]⟩)
   clear n t2 t3 t8 t9 t22 t23 P
   rintro T h' ⟨y,P,n,t2,t3,t8,t9,b,t22,t23⟩
   refine zj (by decide) (λm T h'=>∃k:Nat,k<=l.length/\TellIn [] h0 h' (h.length+1) s a (goP s w ((zD l).take k))/\T 2=i64 w/\T 3= .ptr h.length 0/\T 8= .ptr (h.length+1) 0/\T 9= .fn (.func 63) [.ptr (h.length+1) 0] []/\T 21=y/\T 22=i64 l.length/\T 23=i64 k/\m=l.length - k) l.length
    ⟨0,by omega,n,t2,t3,t8,t9,b,t22,t23,rfl⟩ ?_
   clear n t2 t3 t8 t9 b t22 t23
   rintro m T h' ⟨k,hk,n,t2,t3,t8,t9,b,t22,t23,rfl⟩
   simp only[go_sem,t22,t23]
   have I:szT (goP s w ((zD l).take k))<=szT ⟨none,[],[]⟩+3*((zD l).take k).length:=xIa ((zD l).take k)
   rw[List.length_take] at I
   have δ:szT ⟨none,[],[]⟩=0:=rfl
   have U:h'[h.length]? =some (.box 30 (zr s a)):=by
    obtain ⟨L,V,_⟩:=n.pre
    rw[V,d]
    exact zb (by simp)
   refine ways (λe=>?_) (λe=>?_)
   ·have μ:=dlt e
    have o:k<(zD l).length:=by omega
    have E:=(P h').at (i:=k) (by simpa using o)
    have D:=(P h').rows
    have j:((zD l).map evC)[k]? =some (evC (zD l)[k]):=qX (List.getElem?_eq_getElem o)
    have F:(k:Int)<(zD l).length:=by omega
    obtain ⟨ev,N⟩:∃ev,ev=(zD l)[k]:=⟨_,rfl⟩
    rw[<-N] at j
    have p:goP s w ((zD l).take (k+1))=vT s w (goP s w ((zD l).take k)) ev:=by
     rw[goP, <-List.take_append_getElem o,List.foldl_append,N]
     rfl
    have C:∀M,(h'++M)[h.length]? =some (.box 30 (zr s a)):=λM=>zb U
    have hA:List.length (evC ev)=11:=rfl
    have skip:vS s w ev=false->TellIn [] h0 (h'++[.box 73 (evC ev)]) (h.length+1) s a (goP s w ((zD l).take (k+1))):=λq=>by
     rw[p,vT,q]
     exact n.app (zi rfl)
    have fin:k+1<=l.length:=by omega
    by_cases q1:ev.worker=w
    ·have u:(ev.worker==w)=true:=by simpa using q1
     by_cases q2:ev.kind=7
     ·have G:(ev.kind != 7)=false:=by simpa using q2
      simp only[go_sem,b,t23,E,D,j,F,List.length_map,Int.toNat_natCast,Int.natCast_nonneg,t2,C,u,G,zJ]
      exact ⟨l.length - (k+1),by omega,k+1,fin,skip (by simp only[vS,u,G];rfl),t3,t8,t9,t22,zx (by omega) rfl,rfl⟩
     ·have G:(ev.kind != 7)=true:=by simpa using q2
      simp only[go_sem,t3,b,t23,E,D,j,F,List.length_map,Int.toNat_natCast,Int.natCast_nonneg,t2,C,u,G,zJ]
      refine zc (c14 _ s a ((n.app (zi rfl)).pre.sin (d▸k0)) ev) ?_
      rintro _ h3 ⟨rfl,e3⟩
      subst e3
      simp only[go_sem]
      refine ways (λZ=>?_) (λZ=>?_)
      ·have J:vS s w ev=true:=by simp only[vS,u,G];exact Z
       simp only[go_sem,t9]
       refine zc (c56 [] h0 _ _ s a _ ev (n.app (zi rfl)) (by omega)) ?_
       rintro _ h3 ⟨rfl,q⟩
       simp only[go_sem,t23]
       refine ⟨l.length - (k+1),by omega,k+1,fin,?_,t2,t3,t8,t9,b,t22,zx (by omega) rfl,rfl⟩
       rw[p,vT,J]
       exact q
      ·simp only[go_sem,t23]
       exact ⟨l.length - (k+1),by omega,k+1,fin,skip (by simp only[vS,u,G];exact Z),t2,t3,t8,t9,b,t22,zx (by omega) rfl,rfl⟩
    ·have u:(ev.worker==w)=false:=by simpa using q1
     simp only[go_sem,b,t23,E,D,j,F,List.length_map,Int.toNat_natCast,Int.natCast_nonneg,t2,C,u,zJ]
     exact ⟨l.length - (k+1),by omega,k+1,fin,skip (by simp only[vS,u];rfl),t3,t8,t9,t22,zx (by omega) rfl,rfl⟩
   ·have φ:=qU e
    have W:k=(zD l).length:=by omega
    subst W
    rw[List.take_length] at n I
    simp only[go_sem,t8]
    refine zc (c58 [] h0 h' _ s a _ 32054400 n (by omega)) ?_
    rintro _ h3 ⟨rfl,q⟩
    obtain ⟨m1,m2,mf,p',x',y',R,m4,m5,m6⟩:=q
    obtain ⟨L,V,hN⟩:=m1
    subst V
    rw[d,List.append_assoc] at R m4 m5
    rw[d,List.append_assoc]
    rw[zm rfl] at R
    have S:L[0]? =some (.box 129 (vh s a p' x' y')):=R
    simp only[go_sem]
    refine zn rfl [] 0 [(0,0,[]),(1,0,[]),(2,0,[]),(4,0,[]),(5,0,[]),(6,0,[]),(3,0,[]),(8,0,[]),(7,0,[]),(9,0,[])] rfl (by decide) (by decide) ?_
    simp only[go_sem,t8,S]
    refine ⟨.tup [x',y'],by simp only[go_sem],.inl ⟨_,_,_,rfl,zg rfl hN,rfl,?_,?_⟩⟩
    ·rw[hs];exact m4.new (by rw[List.length_append];omega)
    ·rw[hs];exact m5.new (by rw[List.length_append];omega)
end Go.Proofs.YtfmldcilgbbimaaGreat.Ax
