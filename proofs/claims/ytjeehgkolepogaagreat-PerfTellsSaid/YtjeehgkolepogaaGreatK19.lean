import Derived.Test.YtjeehgkolepogaaGreatK18
set_option linter.all false
namespace Go.Proofs.YtjeehgkolepogaaGreat.Ax
open Go Go.Proofs
set_option maxRecDepth 100000
def c58(F:List (Nat × List AV))(h0 h:List Ob)(i:Nat)(s:Setup)(a:SA)(t:TellS)(at_:Int)(g:TellIn F h0 h i s a t)(z:szT t+2<1099511627776):
    ACalls Tryz.prog 50 [.ptr i 0,i64 at_] h λr h'=>r= .tup []/\TellIn F h0 h' i s a (jo s t at_):=by
 have hex:=TellIn.ex g (jo s t at_);have l:=g;obtain⟨k1,k2,U,p,x,y,k3,k4,k5,k6⟩:=l;have K:∀M,(h++M)[i]? =some (.box 91 (va s a p x y)):=λM=>zk k3;cases d:t.open_ with
 | none=>
   rw[d] at k6;have k6:p= .v (.pointer none):=k6;subst k6;have c:jo s t at_=t:=(by simp only[jo,d]);rw[c] at hex⊢;refine enterQX Tryz.f50 (λB=>?_) (hex);simp only[go_sem,K,k3];exact⟨.tup [],zo,.inl ⟨rfl,g⟩⟩
 | some q=>
   obtain⟨e,os⟩:=q;rw[d] at k6;obtain⟨j,o,Q,rfl,w,T⟩:=k6;have c:jo s t at_=if at_>wr (e.at_+s.cap) then xx s (xb t e 1) e os (wr (e.at_+s.cap)) else t:=(by simp only[jo,d]);simp only[szT,d,szO] at z;refine enterQX Tryz.f50 (λB=>?_) (hex);simp only[go_sem,k3,qv];refine zl (c90 h i j s a x y o e k3 w) ?_;rintro _ G ⟨rfl,k⟩;subst k;refine zz ?_;refine ways (λm=>?_) (λm=>?_)
   ·have b:at_>wr (e.at_+s.cap):=of_decide_eq_true m;rw[if_pos b] at c;simp only[go_sem,k3,w];refine zl (c85 F h0 G i s a t e 1 g zb) ?_;rintro _ I ⟨rfl,q⟩;have E:=q;obtain⟨V,X,P,R,J,L,H,W,S,u⟩:=E;have f:(xb t e 1).open_=some (e,os):=d;rw[f] at u;obtain⟨O,o',A,rfl,n,N⟩:=u;refine zz ?_;refine zl (c90 I i O s a J L o' e H n) ?_;rintro _ D ⟨rfl,k⟩;subst k;refine zz ?_;refine zl (c86 F h0 _ i s a _ e os _ q f (by simp only[xb];omega)) ?_;rintro _ D ⟨rfl,C⟩;refine zz ?_;exact⟨.tup [],zo,.inl ⟨rfl,by rw[c];exact C⟩⟩
   ·have b:¬ at_>wr (e.at_+s.cap):=of_decide_eq_false m;rw[if_neg b] at c;rw[c];refine zz ?_;exact⟨.tup [],zo,.inl ⟨rfl,g⟩⟩
def c56(F:List (Nat × List AV))(h0 h:List Ob)(i:Nat)(s:Setup)(a:SA)(t:TellS)(e:Ev)(ht:TellIn F h0 h i s a t)(hl:szT t+8<1099511627776):
    ACalls Tryz.prog 47 [.ptr i 0,evV e] h λr h'=>r= .tup []/\TellIn F h0 h' i s a (j7 s t e):=by
 have hex:=TellIn.ex ht (j7 s t e);obtain⟨u,U⟩:∃u,u=jo s t e.at_:=⟨_,rfl⟩;have δ:=JZ (s:=s) (t:=t) (at_:=e.at_);rw[<-U] at δ;unfold j7 at hex⊢;rw[<-U] at hex⊢;refine enterQX Tryz.f47 (λB=>?_) (hex);have V:∀M,(h++ .box 55 (evC e)::M)[h.length]? =some (.box 55 (evC e)):=λM=>by rw[qr rfl];rfl
 simp only[go_sem,V];refine zl (c58 ((h.length,evC e)::F) h0 _ i s a t e.at_ (ht.keep e) zb) ?_;rintro _ b ⟨rfl,q⟩;rw[<-U] at q;have l:b[h.length]? =some (.box 55 (evC e)):=q.kept _ List.mem_cons_self;have w:∀M,(b++M)[h.length]? =some (.box 55 (evC e)):=λM=>zk l;have q':=q;obtain⟨k1,k2,kf,p,x,y,k3,k4,k5,k6⟩:=q';have Z:∀M,(b++M)[i]? =some (.box 91 (va s a p x y)):=λM=>zk k3;have T:∀M o,(b++M).set i o=b.set i o++M:=λM o=>qL k3;have n:Kept F b:=λz Q=>kf z (List.mem_cons_of_mem _ Q);have L:=k1.len;simp only[go_sem,l];refine ways (λC=>?_) (λC=>?_)
 ·have C:e.kind=1:=by simpa using C
  rw[if_pos C];cases d:u.open_ with
  | none=>
    rw[d] at k6;have k6:p= .v (.pointer none):=k6;subst k6;simp only[go_sem,l,k3,Z,T,w];exact⟨.tup [],zo,.inl ⟨rfl,(k1.set k2 rfl).app (zW rfl),k2,(n.set_box k3 ze _).app _,_,_,_,zk (zt k3),(k4.set_box k3 _).app _,(k5.set_box k3 _).app _,b.length,_,L,rfl,by rw[qr zh];rfl,.inl ⟨rfl,rfl⟩⟩⟩
  | some z=>
    obtain⟨f,os⟩:=z;rw[d] at k6;obtain⟨j,o,J,rfl,c,j4⟩:=k6;have g:szT u=u.segs.length+u.flags.length+(os.length+1):=(by simp only[szT,d,szO]);simp only[go_sem,k3,c];refine zl (c85 _ h0 b i s a u f 2 q zb) ?_;rintro _ O ⟨rfl,G⟩;have β:O[h.length]? =some (.box 55 (evC e)):=G.kept _ List.mem_cons_self;simp only[go_sem,β];refine zl (c86 _ h0 O i s a _ f os e.at_ G d (by simp only[xb];omega)) ?_;rintro _ H ⟨rfl,q3⟩;have S:H[h.length]? =some (.box 55 (evC e)):=q3.kept _ List.mem_cons_self;obtain⟨m1,m2,mf,p',x',y',I,m4,m5,m6⟩:=q3;have D:∀M,(H++M)[i]? =some (.box 91 (va s a p' x' y')):=λM=>zk I;have E:∀M o,(H++M).set i o=H.set i o++M:=λM o=>qL I;have Y:Kept F H:=λz Q=>mf z (List.mem_cons_of_mem _ Q);simp only[go_sem,S,D,E];exact⟨.tup [],zo,.inl ⟨rfl,(m1.set m2 rfl).app (zW rfl),m2,(Y.set_box I ze _).app _,_,_,_,zk (zt I),(m4.set_box I _).app _,(m5.set_box I _).app _,H.length,_,m1.len,rfl,by rw[qr zh];rfl,.inl ⟨rfl,rfl⟩⟩⟩
 ·have C:¬ e.kind=1:=by simpa using C
  rw[if_neg C];cases d:u.open_ with
  | none=>
    rw[d] at k6;have k6:p= .v (.pointer none):=k6;subst k6;have g:szT u=u.segs.length+u.flags.length+0:=(by simp only[szT,d,szO]);simp only[go_sem,l,k3];refine zl (c85 _ h0 b i s a u e 3 q zb) ?_;rintro _ O ⟨rfl,G⟩;refine zz ?_;exact⟨.tup [],zo,.inl ⟨rfl,G.drop⟩⟩
  | some z=>
    obtain⟨f,os⟩:=z;rw[d] at k6;obtain⟨j,o,J,rfl,c,j4⟩:=k6;have g:szT u=u.segs.length+u.flags.length+(os.length+1):=(by simp only[szT,d,szO]);simp only[go_sem,k3,c,l];refine ways (λA=>?_) (λA=>?_)
    ·have A:e.kind=2:=(by simpa using A);simp only[go_sem,l];refine zl (c86 _ h0 b i s a u f os e.at_ q d zb) ?_;rintro _ O ⟨rfl,G⟩;refine zz ?_;exact⟨.tup [],zo,.inl ⟨rfl,by simp only[if_pos A];exact G.drop⟩⟩
    ·have A:¬ e.kind=2:=(by simpa using A);simp only[if_neg A];have K:∀M,(b++M)[j]? =some (.box 117 (VU f o)):=λM=>zk c;have N:∀M o,(b++M).set j o=b.set j o++M:=λM o=>qL c;have d1:=xE c k3 ze;rcases j4 with⟨rfl,hn⟩|⟨id,st,r1,rfl,m⟩
     ·refine zz ?_;refine zZ [.res] 1 (oF [0,1,2,4,5,6,3,7,8,9,10,11,12] ((13,0,[3])::oF [14,15,16] ([]))) ?_;simp only[go_sem,l,w,k3,c,Z,T,K,N];refine⟨.tup [],zo,.inl ⟨rfl,(k1.set J rfl).app (zA rfl (zW rfl)),k2,(n.set_box c ze _).app _,.ptr j 0,x,y,zk (by rw[zf d1];exact k3),(k4.set_box c _).app _,(k5.set_box c _).app _,j,.tl (b.length+1) 0,J,rfl,zk (zt c),.inr ⟨b.length+1,0,zb,rfl,?_⟩⟩⟩;rw[qa zh,zD,hn];rfl
     ·have hid:∀M,(b++M)[id]? =some (.row 55 11 (os.map evC) st):=λM=>zk m;have E:∀M o,(b++M).set id o=b.set id o++M:=λM o=>qL m
      have k:∀ {j u:Nat} {cs:List AV},b[j]? =some (.box u cs)->∀o,(b.set id o)[j]? =some (.box u cs):=λK o=>by
       rw[zf (λq=>by rw[q,K] at m;cases m)];exact K
      have P:∀M o,(b.set id o++M)[j]? =_:=λM o=>zk (k c o);have D:∀M o,(b.set id o++M)[i]? =_:=λM o=>zk (k k3 o);have α:∀M o W,(b.set id o++M).set j W=(b.set id o).set j W++M:=λM o W=>qL (k c o);have γ:∀M o,(b.set id o++M)[h.length]? =_:=λM o=>zk (k l o);have X:j≠id:=λq=>(by rw[q,m] at c;cases c);have g:szT u=u.segs.length+u.flags.length+(os.length+1):=(by simp only[szT,d,szO]);have R:((os.map evC).length+1)*89<=140737488355328:=(by rw[zc];omega);refine zz ?_;refine zZ [.res] 1 (oF [0,1,2,4,5,6,3,7,8,9,10,11,12] ((13,0,[3])::oF [14,15,16] ([]))) ?_;simp only[go_sem,l,w,k3,c,Z,T,K,N,hid,E,P,D,α,γ,R];refine⟨.tup [],zo,.inl ⟨rfl,((k1.set r1 rfl).set J rfl).app (zW rfl),k2,((n.set_row m _).set_box (k c _) ze _).app _,.ptr j 0,x,y,zk (by rw[zf d1];exact k k3 _),((k4.set_row m ze _).set_box (k c _) _).app _,((k5.set_row m ze _).set_box (k c _) _).app _,j,.tl id (st+1),J,rfl,zk (zt (k c _)),.inr ⟨id,st+1,r1,rfl,zk ?_⟩⟩⟩;rw[zf X,zt m,zD];rfl
def jU(s:Setup)(w:Int)(e:Ev):Bool:=(e.worker==w && e.kind != 7) && km s e
def vF(s:Setup)(w:Int)(t:TellS)(e:Ev):TellS:=if jU s w e then j7 s t e else t
def goP(s:Setup)(w:Int)(l:List Ev):TellS:=l.foldl (vF s w) ⟨none,[],[]⟩
def qq(s:Setup)(l:List Ev)(w:Int):List Seg × List Flg:=if zX s then((jo s (goP s w (zS l)) 32054400).segs,(jo s (goP s w (zS l)) 32054400).flags) else([],[])
def jNa{s:Setup}{w:Int}{t:TellS}{e:Ev}:szT (vF s w t e)<=szT t+3:=by
 unfold vF;split
 ·exact jMa
 ·omega
def jOa{s:Setup}{w:Int}(l:List Ev):∀ {t:TellS},szT (l.foldl (vF s w) t)<=szT t+3*l.length:=by
 induction l with
 | nil=>intro t;simp
 | cons x l a=>
   intro t;rw[List.foldl_cons];have b:=a (t:=vF s w t x);have c:=jNa (s:=s) (w:=w) (t:=t) (e:=x);rw[List.length_cons];omega
def New(h:List Ob)(e:Nat)(x:AV)(rows:List (List AV))(L:List Ob):Prop:=∀a:List Ob,a.length=h.length->SlOf (a++L) x e rows
def OwnS.new{h0 h L:List Ob}{ty e:Nat}{x:AV}{rows:List (List AV)}(k:OwnS h0 (h++L) ty e x rows)(c:h.length<=h0.length):New h e x rows L:=λb a=>by
 rcases k with⟨rfl,rfl⟩|⟨id,st,k1,rfl,k3⟩
 ·exact⟨rfl,λh=>absurd rfl h⟩
 ·have:(b++L)[id]? =some (.row ty e rows st):=by
   rw[zM zb] at k3⊢;rw[a];exact k3
  refine⟨?_,λ_=>?_⟩
  ·rw[jR,this,vm,if_pos rfl]
  ·rw[vM,this,wH]
def c21(h:List Ob)(s:Setup)(a:SA)(k:SIn h s a)(f:SFit s)(x:AV)(l:List Ev)(w:Int)(hx:SlOf h x 11 (l.map evC))(hl:l.length<1048576):
    ACalls Tryz.prog 13 [qE s a,x,i64 w] h λr h'=>∃L y z,h'=h++L/\NoRes L/\r= .tup [y,z]/\New h 5 y ((qq s l w).1.map qU) L/\New h 2 z ((qq s l w).2.map kZ) L:=by
 have hex:∃r h',(∃L y z,h'=h++L/\NoRes L/\r=AV.tup [y,z]/\New h 5 y ((qq s l w).1.map qU) L/\New h 2 z ((qq s l w).2.map kZ) L)/\ResK h h':=
  ⟨_,_,⟨[],.sl 5 _,.sl 2 _,rfl,kR,rfl,λ_ _=>⟨rfl,λ_=>rfl⟩,λ_ _=>⟨rfl,λ_=>rfl⟩⟩,jp⟩
 refine enterQX Tryz.f13 (λB=>?_) (hex);simp only[go_sem,k.w.one,k.e.one,k.c.one,k.g.one,k.r.one,k.t.one];refine qI (c16 _ s a (k.app _) f) ?_;refine ways (λe=>?_) (λe=>?_)
 ·have S:zX s=false:=by simpa using e
  refine zz ?_;refine⟨.tup [.v (.slice none 0 0),.v (.slice none 0 0)],zo,.inl ⟨_,_,_,rfl,zW rfl,rfl,?_,?_⟩⟩
  ·rw[qq,S];exact λ_ _=>⟨rfl,λh=>absurd rfl h⟩
  ·rw[qq,S];exact λ_ _=>⟨rfl,λh=>absurd rfl h⟩
 ·have S:zX s=true:=by simpa using e
  simp only[JC,KF];rw[jS,jS,Z3,jS];have N:=jl l;have k0:SIn (h++[.box 30 (zN s a)]) s a:=k.app _;have hs:qq s l w=((jo s (goP s w (zS l)) 32054400).segs,(jo s (goP s w (zS l)) 32054400).flags):=by rw[qq,S];rfl
  obtain⟨h0,j⟩:∃h0,h0=h++[.box 30 (zN s a)]:=⟨_,rfl⟩;have W:h0.length=h.length+1:=by rw[j];simp
  refine yr (λT h'=>TellIn [] h0 h' (h.length+1) s a ⟨none,[],[]⟩/\T 2=i64 w/\T 3= .ptr h.length 0/\T 8= .ptr (h.length+1) 0/\T 9= .fn (.func 47) [.ptr (h.length+1) 0] []/\T 22=i64 l.length/\T 23=i64 0/\((zS l=[]/\T 21= .v (.slice none 0 0))∨(∃id st,T 21= .tl id st/\h'[id]? =some (qJ (zS l) st)/\h0.length<=id))) ?_ ?_
  ·simp only[go_sem,k.w.one,k.e.one,k.c.one,k.g.one,k.r.one,k.t.one]
   have H:TellIn [] h0 (h0++[.box 91 (va s a (.v (.pointer none)) (.v (.slice none 0 0)) (.v (.slice none 0 0)))]) (h.length+1) s a ⟨none,[],[]⟩:=
    ⟨Pre.refl.app (zW rfl),zb,(λ_ h=>by cases h),_,_,_,by rw[<-W,qr rfl];rfl,.inl ⟨rfl,rfl⟩,.inl ⟨rfl,rfl⟩,rfl⟩
   rw[j,zq] at H;refine zl (c57 _ x l (hx.app _) zb) ?_;rintro r X (⟨rfl,rfl,rfl⟩|⟨rfl,rfl⟩)
   ·simp only[go_sem,List.length_nil];rw[j];exact⟨H,.inl rfl⟩
   ·have hg:∀M,(h++ .box 30 (zN s a):: .box 91 (va s a (.v (.pointer none)) (.v (.slice none 0 0)) (.v (.slice none 0 0)))::qJ (zS l) 1::M)[h.length+2]? =some (qJ (zS l) 1):=λM=>(by rw[qa rfl];rfl);simp only[go_sem,hg,zc,N];have Q:=H.app (M:=[qJ (zS l) 1]) (zW rfl);rw[zq, <-j] at Q;exact⟨Q,.inr ⟨_,_,rfl,by rw[qa rfl];rfl,zb⟩⟩
  ·rintro T h' ⟨p,t2,t3,o,t9,t22,b,J⟩;refine zz ?_;refine Yc (λT h'=>∃y,(∀Z:List Ob,SlOf Z y 11 ((zS l).map evC))/\TellIn [] h0 h' (h.length+1) s a ⟨none,[],[]⟩/\T 2=i64 w/\T 3= .ptr h.length 0/\T 8= .ptr (h.length+1) 0/\T 9= .fn (.func 47) [.ptr (h.length+1) 0] []/\T 21=y/\T 22=i64 l.length/\T 23=i64 0) (λK=>?_) ?_
   ·rcases J with⟨hn,d⟩|⟨id,st,d,hr,α⟩
    ·exact K _ _ ⟨_,λZ=>by rw[hn];exact⟨rfl,λh=>absurd rfl h⟩,p,t2,t3,o,t9,d,t22,b⟩
    ·exact WF 21 d hr (K _ _ ⟨.sl 11 ((zS l).map evC),λZ=>⟨rfl,λ_=>rfl⟩,p.gone hr α rfl,by simp only[go_sem,t2],by simp only[go_sem,t3],by simp only[go_sem,o],by simp only[go_sem,t9],zo,by simp only[go_sem,t22],by simp only[go_sem,b]⟩)
   clear p t2 t3 o t9 t22 b J;rintro T h' ⟨y,J,p,t2,t3,o,t9,d,t22,b⟩
   refine wp_loop_a ze (λm T h'=>∃k:Nat,k<=l.length/\TellIn [] h0 h' (h.length+1) s a (goP s w ((zS l).take k))/\T 2=i64 w/\T 3= .ptr h.length 0/\T 8= .ptr (h.length+1) 0/\T 9= .fn (.func 47) [.ptr (h.length+1) 0] []/\T 21=y/\T 22=i64 l.length/\T 23=i64 k/\m=l.length - k) l.length
    ⟨0,zb,p,t2,t3,o,t9,d,t22,b,rfl⟩ ?_
   clear p t2 t3 o t9 d t22 b;rintro m T h' ⟨k,hk,p,t2,t3,o,t9,d,t22,b,rfl⟩;simp only[go_sem,t22,b];have R:szT (goP s w ((zS l).take k))<=szT ⟨none,[],[]⟩+3*((zS l).take k).length:=jOa ((zS l).take k);rw[zT] at R;have η:szT ⟨none,[],[]⟩=0:=rfl
   have Y:h'[h.length]? =some (.box 30 (zN s a)):=by
    obtain⟨L,U,_⟩:=p.pre;rw[U,j];exact zk zh
   refine ways (λe=>?_) (λe=>?_)
   ·have υ:=dlt e;have A:k<(zS l).length:=zb;have G:=(J h').at (i:=k) (by simpa using A);have E:=(J h').rows;have n:((zS l).map evC)[k]? =some (evC (zS l)[k]):=jz (zg A);have D:(k:Int)<(zS l).length:=zb;obtain⟨ev,P⟩:∃ev,ev=(zS l)[k]:=⟨_,rfl⟩;rw[<-P] at n
    have u:goP s w ((zS l).take (k+1))=vF s w (goP s w ((zS l).take k)) ev:=by
     rw[goP, <-zG A,qK,P];rfl
    have F:∀M,(h'++M)[h.length]? =some (.box 30 (zN s a)):=λM=>zk Y;have hA:List.length (evC ev)=11:=rfl
    have skip:jU s w ev=false->TellIn [] h0 (h'++[.box 55 (evC ev)]) (h.length+1) s a (goP s w ((zS l).take (k+1))):=λq=>by
     rw[u,vF,q];exact p.app (zW rfl)
    have fin:k+1<=l.length:=zb;by_cases q1:ev.worker=w
    ·have C:(ev.worker==w)=true:=(by simpa using q1);by_cases q2:ev.kind=7
     ·have I:(ev.kind != 7)=false:=(by simpa using q2);simp only[go_sem,d,b,G,E,n,D,zc,Int.toNat_natCast,zd,t2,F,C,I,qv];exact⟨l.length - (k+1),zb,k+1,fin,skip (by simp only[jU,C,I];rfl),t3,o,t9,t22,qh zb rfl,rfl⟩
     ·have I:(ev.kind != 7)=true:=(by simpa using q2);simp only[go_sem,t3,d,b,G,E,n,D,zc,Int.toNat_natCast,zd,t2,F,C,I,qv];refine zl (c14 _ s a ((p.app (zW rfl)).pre.sin (j▸k0)) ev) ?_;rintro _ X ⟨rfl,e3⟩;subst e3;refine zz ?_;refine ways (λe4=>?_) (λe4=>?_)
      ·have O:jU s w ev=true:=(by simp only[jU,C,I];exact e4);simp only[go_sem,t9];refine zl (c56 [] h0 _ _ s a _ ev (p.app (zW rfl)) zb) ?_;rintro _ X ⟨rfl,q⟩;simp only[go_sem,b];refine⟨l.length - (k+1),zb,k+1,fin,?_,t2,t3,o,t9,d,t22,qh zb rfl,rfl⟩;rw[u,vF,O];exact q
      ·simp only[go_sem,b];exact⟨l.length - (k+1),zb,k+1,fin,skip (by simp only[jU,C,I];exact e4),t2,t3,o,t9,d,t22,qh zb rfl,rfl⟩
    ·have C:(ev.worker==w)=false:=(by simpa using q1);simp only[go_sem,d,b,G,E,n,D,zc,Int.toNat_natCast,zd,t2,F,C,qv];exact⟨l.length - (k+1),zb,k+1,fin,skip (by simp only[jU,C];rfl),t3,o,t9,t22,qh zb rfl,rfl⟩
   ·have φ:=jO e;have V:k=(zS l).length:=zb;subst V;rw[qR] at p R;simp only[go_sem,o];refine zl (c58 [] h0 h' _ s a _ 32054400 p zb) ?_;rintro _ X ⟨rfl,q⟩;obtain⟨m1,m2,mf,p',x',y',m3,m4,m5,m6⟩:=q;obtain⟨L,U,hN⟩:=m1;subst U;rw[j,zq] at m3 m4 m5;rw[j,zq];rw[qa rfl] at m3;have δ:L[0]? =some (.box 91 (va s a p' x' y')):=m3;refine zz ?_;refine zZ [] 0 (oF [0,1,2,4,5,6,3,8,7,9] ([])) ?_;simp only[go_sem,o,δ];refine⟨.tup [x',y'],zo,.inl ⟨_,_,_,rfl,zA rfl hN,rfl,?_,?_⟩⟩
    ·rw[hs];exact m4.new (by rw[zp];omega)
    ·rw[hs];exact m5.new (by rw[zp];omega)
