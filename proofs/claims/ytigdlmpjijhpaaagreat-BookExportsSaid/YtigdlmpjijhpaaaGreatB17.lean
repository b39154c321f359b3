import Derived.Test.YtigdlmpjijhpaaaGreatBA
import Derived.Test.YtigdlmpjijhpaaaGreatB16
set_option linter.all false
namespace Go.Proofs.YtigdlmpjijhpaaaGreat.Ax
open Go Go.Proofs
set_option maxRecDepth 100000
theorem qzb{k:Nat}(h:k<1099511627776):wr (2*(k:Int))=((2*k:Nat):Int):=by rw[qp (by unfold Fit;omega)];omega
theorem qAb{k:Nat}(h:k<1099511627776):wr ((k:Int)*2)=((2*k:Nat):Int):=by rw[qp (by unfold Fit;omega)];omega
theorem dle{a b:Nat}(e:decide ((a:Int)<=(b:Int))=true):a<=b:=by simpa using e
theorem qBb{a b:Nat}(e:decide ((a:Int)<=(b:Int))=false):b<a:=by simpa using e
theorem Xf{l:List Ev}{n:Nat}(h:n<=l.length):∃a b,l=a++b/\a.length=n:=⟨l.take n,l.drop n,(qL _ _).symm,by simp;omega⟩
set_option maxHeartbeats 1000000 in
theorem xmb(h:List Ob)(id st n:Nat)(l:List Ev)(hi:h[id]? =some (jg l st))(F:n=l.length)(Q:l.length<1099511627776):
  ACalls Tryz.prog 179 [.tl id st,i64 n,.fn (.func 111) [] []] h λr h'=>r= .tup []/\h'=h.set id (jg (qu l) st):=by
 have s:∀o,(h.set id o)[id]? =some o:=λo=>zq hi
 refine zj Tryz.f179 [] 63 rfl rfl rfl rfl rfl rfl (by decide) (⟨_,_,⟨rfl,rfl⟩,qj hi rfl⟩) λB=>?_
 simp only[go_sem]
 refine zP (by decide) (λk T h'=>∃D R,D++blkE 20 R=blkE 20 l/\D.length+R.length=n/\h'=h.set id (jg (D++R) st)/\T 0= .tl id st/\T 1=i64 n/\T 2= .fn (.func 111) [] []/\T 6=i64 (20:Nat)/\T 7=i64 D.length/\T 8=i64 (D.length+20:Nat)/\k=R.length) l.length
  ⟨[],l,rfl,by simp[F],(qM hi).symm,by simp only[go_sem],by simp only[go_sem],by simp only[go_sem],by(simp only[go_sem]<;>rfl),by(simp only[go_sem]<;>rfl),by(simp only[go_sem]<;>rfl),rfl⟩ ?_
 rintro k T h' ⟨D,R,f,p,rfl,t0,t1,t2,t6,j,t8,rfl⟩
 simp only[go_sem,t1,t8]
 refine ways (λe=>?_) (λe=>?_)
 ·have A:=dle e
  obtain⟨d,c,rfl,g⟩:=Xf (l:=R) (n:=20) (by omega)
  simp only[ze] at p
  have t:wr (((D.length+20:Nat):Int)+20)=((D.length+20+20:Nat):Int):=Z8 (b:=20) (by omega)
  rw[JE g (by omega)] at f
  have P:=j6 d
  simp only[go_sem,t0,t2,t6,j,t8]
  refine zg (qyb _ id st _ _ D d c (s _) rfl (by omega) (by simp;omega)) ?_
  rintro _ u ⟨rfl,i⟩
  subst i
  simp only[go_sem,t8,t6,t,zU]
  exact⟨c.length,by omega,D++qu d,c,by rw[<-f];simp,by simp;omega,by simp,t0,t1,t2,jV (by simp;omega),jV (by simp;omega),rfl⟩
 ·have q:=qBb e
  have N:R.length<20:=by omega
  rw[ZZ (by omega)] at f
  simp only[go_sem,t0,t1,t2,j]
  refine zg (qyb _ id st _ _ D R [] (by rw[s];simp) rfl (by omega) (by simp;omega)) ?_
  rintro _ u ⟨rfl,i⟩
  subst i
  rw[zF,f]
  simp only[go_sem,zU]
  refine zP (by decide) (λk T h'=>∃a:Nat,0<a/\a<2199023255552/\h'=h.set id (jg (blkE a l) st)/\T 0= .tl id st/\T 1=i64 n/\T 2= .fn (.func 111) [] []/\T 6=i64 a/\k=n - a) (n - 20)
   ⟨20,by omega,by omega,rfl,by simp only[go_sem,t0],by simp only[go_sem,t1],by simp only[go_sem,t2],by simp only[go_sem,t6],rfl⟩ ?_
  clear t0 t1 t2 t6 j t8 f p N q e
  rintro k T h' ⟨a,I,J,rfl,t0,t1,t2,t6,rfl⟩
  simp only[go_sem,t1,t6]
  refine ways (λe=>?_) (λe=>?_)
  ·have L:=dlt e
   have t:=qzb (k:=a) (by omega)
   have E:=qAb (k:=a) (by omega)
   simp only[go_sem,t6,t]
   refine zP (by decide) (λk T h'=>∃D R,D++blkE (2*a) R=blkE (2*a) l/\D.length+R.length=n/\h'=h.set id (jg (D++blkE a R) st)/\T 0= .tl id st/\T 1=i64 n/\T 2= .fn (.func 111) [] []/\T 6=i64 a/\T 7=i64 D.length/\T 8=i64 (D.length+2*a:Nat)/\k=R.length) l.length
    ⟨[],l,rfl,by simp[F],rfl,by simp only[go_sem,t0],by simp only[go_sem,t1],by simp only[go_sem,t2],by simp only[go_sem,t6],by(simp only[go_sem]<;>rfl),by(simp only[go_sem]<;>exact jV (by simp)),rfl⟩ ?_
   clear t0 t1 t2 t6
   rintro k T h' ⟨D,R,f,p,rfl,t0,t1,t2,t6,j,t8,rfl⟩
   simp only[go_sem,t1,t8]
   refine ways (λe=>?_) (λe=>?_)
   ·have A:=dle e
    obtain⟨d,K,rfl,g⟩:=Xf (l:=R) (n:=a) (by omega)
    obtain⟨c,m,rfl,z⟩:=Xf (l:=K) (n:=a) (by simp at p;omega)
    simp only[ze] at p
    have w:wr (((D.length:Nat):Int)+(a:Int))=((D.length+a:Nat):Int):=Z8 (by omega)
    have O:wr (((D.length+2*a:Nat):Int)+((2*a:Nat):Int))=((D.length+2*a+2*a:Nat):Int):=Z8 (by omega)
    have M:blkE (2*a) (d++(c++m))=qu (d++c)++blkE (2*a) m:=by
     rw[<-zp,JE (by simp;omega) (by omega)]
    rw[M] at f
    rw[JE g (by omega),JE z (by omega)]
    have v:=j6 d
    have C:=j6 c
    have x:=j6 (d++c)
    simp only[ze] at x
    have H:=JTa a m
    simp only[go_sem,t0,t2,t6,j,t8,w]
    refine zg (Vda _ _ id st _ _ _ D (qu d) (qu c) (blkE a m) (s _) rfl (by omega) (by omega) (by omega) (by omega) (vp _) (vp _) (by omega) (zn _)) ?_
    rintro _ u ⟨rfl,i⟩
    subst i
    rw[QJ]
    simp only[go_sem,t8,t6,t,O,zU]
    exact⟨m.length,by omega,D++qu (d++c),m,by rw[<-f];simp,by simp;omega,by simp,t0,t1,t2,jV (by simp;omega),jV (by simp;omega),rfl⟩
   ·have q:=qBb e
    have w:wr (((D.length:Nat):Int)+(a:Int))=((D.length+a:Nat):Int):=Z8 (by omega)
    simp only[go_sem,t1,t6,j,w]
    refine ways (λe=>?_) (λe=>?_)
    ·have G:=dlt e
     obtain⟨d,c,rfl,g⟩:=Xf (l:=R) (n:=a) (by omega)
     simp only[ze] at p
     rw[JE g (by omega),ZZ (by omega)]
     rw[ZZ (by simp;omega), <-QJ] at f
     have v:=j6 d
     have C:=j6 c
     simp only[go_sem,t0,t1,t2,t6,j]
     refine zg (Vda _ _ id st _ _ _ D (qu d) (qu c) [] (by rw[s];simp) rfl (by omega) (by omega) (by omega) (by omega) (vp _) (vp _) (by simp;omega) (zn _)) ?_
     rintro _ u ⟨rfl,i⟩
     subst i
     rw[zF,f]
     simp only[go_sem,t6,E,zU]
     exact⟨n - 2*a,by omega,2*a,by omega,by omega,rfl,t0,t1,t2,rfl,rfl⟩
    ·have y:=xb e
     rw[ZZ (by omega)]
     rw[ZZ (by omega)] at f
     rw[f]
     simp only[go_sem,t6,E]
     exact⟨n - 2*a,by omega,2*a,by omega,by omega,rfl,t0,t1,t2,rfl,rfl⟩
  ·have y:=xb e
   rw[ZZ (by omega)]
   simp only[go_sem]
   exact⟨.tup [],by simp only[go_sem],.inl ⟨rfl,rfl⟩⟩
theorem Zz{h:List Ob}{x:AV}{r:List AV}{rs:List (List AV)}(b:z6 h x=some (r::rs)):(∃e xs,x= .sl e xs)∨(∃i s,x= .tl i s)∨(∃a e i n,x= .vw a e i n):=by
 cases x with
 | sl e xs=>exact .inl ⟨_,_,rfl⟩
 | tl i s=>exact .inr (.inl ⟨_,_,rfl⟩)
 | vw a e i n=>exact .inr (.inr ⟨_,_,_,_,rfl⟩)
 | v x=>
   unfold z6 at b
   split at b<;>rename_i heq<;>first
    | (cases heq;done)
    | (injection heq with heq;subst heq;injection b with b;cases b)
    | cases b
 | em=>injection b with b;cases b
 | _=>cases b
theorem YDa(l:List Ev):((l.map evC).all λr=>r.length==11 && r.all AV.one)=true:=by
 rw[zR]
 intro r a
 obtain⟨e,_,rfl⟩:=zw.1 a
 rfl
theorem qCb(x f:AV):xw Tryz.prog 237 [x,i64 0,i64 0,f] (.tup []):=λh=>by
 refine zj Tryz.f237 [] 53 rfl rfl rfl rfl rfl rfl (by decide) (⟨_,_,⟨rfl,rfl⟩,.refl⟩) λB=>?_
 simp only[go_sem]
 refine yi 1 (xo (by decide) ?_)
 simp only[go_sem]
 refine zm ?_<;>(simp only[go_sem]<;>try rfl)
theorem qDb(x f:AV):xw Tryz.prog 179 [x,i64 0,f] (.tup []):=λh=>by
 refine zj Tryz.f179 [] 63 rfl rfl rfl rfl rfl rfl (by decide) (⟨_,_,⟨rfl,rfl⟩,.refl⟩) λB=>?_
 simp only[go_sem]
 refine yi 1 (xo (by decide) ?_)
 simp only[go_sem]
 refine zg (qCb _ _ _) ?_
 rintro _ b ⟨rfl,a⟩
 subst a
 simp only[go_sem]
 refine yi 1 (xo (by decide) ?_)
 simp only[go_sem]
 refine zm ?_<;>(simp only[go_sem]<;>try rfl)
theorem c88(h:List Ob)(id st:Nat)(l:List Ev)(hi:h[id]? =some (jg l st))(b:l.length<1099511627776):
  ACalls Tryz.prog 110 [.tl id st,.fn (.func 111) [] []] h λr h'=>r= .tup []/\h'=h.set id (jg (qu l) st):=by
 refine zj Tryz.f110 [] 9 rfl rfl rfl rfl rfl rfl (by decide) (⟨_,_,⟨rfl,rfl⟩,qj hi rfl⟩) λB=>?_
 simp only[go_sem,hi,zb]
 refine zg (xmb _ id st _ l hi rfl b) ?_
 rintro _ c ⟨rfl,a⟩
 subst a
 simp only[go_sem]
 exact⟨.tup [],by simp only[go_sem],.inl ⟨rfl,rfl⟩⟩
theorem xnb(f:AV):xw Tryz.prog 110 [.v (.slice none 0 0),f] (.tup []):=λh=>by
 refine zj Tryz.f110 [] 9 rfl rfl rfl rfl rfl rfl (by decide) (⟨_,_,⟨rfl,rfl⟩,.refl⟩) λB=>?_
 simp only[go_sem]
 refine zg (qDb _ _ _) ?_
 rintro _ b ⟨rfl,a⟩
 subst a
 simp only[go_sem]
 refine zm ?_<;>(simp only[go_sem]<;>try rfl)
theorem c87(h:List Ob)(x:AV)(l:List Ev)(g:SlOf h x 11 (l.map evC))(t:l.length<1099511627776):
  ACalls Tryz.prog 109 [x] h λr h'=>(l=[]/\h'=h/\r= .v (.slice none 0 0))∨(h'=h++[jg l 1]/\r= .tl h.length 1):=by
 refine xF (N:=8) (rs:=[.tmp 2]) (fn:=Tryz.f109) rfl rfl rfl rfl (qC rfl) rfl (⟨_,_,.inr ⟨rfl,rfl⟩,qS⟩) λB=>?_
 cases l with
 | nil=>
   refine QE 0 rfl g.rows (λm=>?_) ?_
   ·refine qn _ (by decide) ?_;simp only[go_sem]
    exact⟨.v (.slice none 0 0),by simp only[go_sem],.inl (.inl ⟨rfl,rfl⟩)⟩
   ·refine qn _ (by decide) ?_;simp only[go_sem]
    exact⟨.tl h.length 1,by simp only[go_sem],.inl (.inr ⟨rfl,rfl⟩)⟩
 | cons y l=>
   have q:=g.at (i:=0) (by simp)
   have d:=g.rows
   have o:vu x=false:=by
    rcases Zz d with⟨e,xs,rfl⟩|⟨i,s,rfl⟩|⟨a,e,i,n,rfl⟩<;>rfl
   unfold vu at o
   have b:∀L,z6 (h++L) x=some ((y::l).map evC):=λL=>(g.app L).rows
   have k:=YDa (y::l)
   have f:((y::l).map evC).length*89<=140737488355328:=by rw[zb];omega
   obtain⟨L,j⟩:∃L,L=(y::l).map evC:=⟨_,rfl⟩
   rw[<-j] at d b k f
   obtain⟨r,p,c⟩:∃r p,L=r::p:=⟨_,_,j⟩
   rw[c] at d b k f
   rw[List.length_cons] at f
   refine qn _ (by decide) ?_;simp only[go_sem,d,q,o,b,k,f,Bool.or_true,decide_true]
   refine⟨.tl h.length 1,by simp only[go_sem],.inl (.inr ⟨?_,rfl⟩)⟩
   rw[<-c,j]
theorem c57(h:List Ob)(x:AV)(l:List Ev)(e:SlOf h x 11 (l.map evC))(b:l.length<1099511627776):
  ACalls Tryz.prog 53 [x] h λr h'=>(l=[]/\h'=h/\r= .v (.slice none 0 0))∨(h'=h++[jg (qu l) 1]/\r= .tl h.length 1):=by
 refine zj Tryz.f53 [.tmp 2] 9 rfl rfl rfl rfl rfl rfl (by decide) (⟨_,_,.inr ⟨rfl,rfl⟩,qS⟩) λB=>?_
 simp only[go_sem]
 refine zg (c87 h x l e b) ?_
 rintro _ f (⟨rfl,rfl,rfl⟩|⟨rfl,rfl⟩)
 ·simp only[go_sem]
  refine zg (xnb _ _) ?_
  rintro _ d ⟨rfl,a⟩
  subst a
  simp only[go_sem]
  exact⟨.v (.slice none 0 0),by simp only[go_sem],.inl (.inl ⟨rfl,rfl⟩)⟩
 ·have c:(h++[jg l 1])[h.length]? =some (jg l 1):=by simp
  simp only[go_sem]
  refine zg (c88 _ _ _ l c b) ?_
  rintro _ d ⟨rfl,a⟩
  subst a
  simp only[go_sem]
  refine⟨.tl h.length 1,by simp only[go_sem],.inl (.inr ⟨?_,rfl⟩)⟩
  simp
def NoRes(L:List Ob):Prop:=∀o∈L,o.isRes=false
def Pre(h0 h:List Ob):Prop:=∃L,h=h0++L/\NoRes L
theorem Pre.refl{h:List Ob}:Pre h h:=⟨[],by simp,λ_ h=>by cases h⟩
theorem Pre.app{h0 h M:List Ob}(k:Pre h0 h)(c:NoRes M):Pre h0 (h++M):=by
 obtain⟨L,rfl,b⟩:=k
 refine⟨L++M,by simp,λo a=>?_⟩
 rcases zJ.1 a with a|a
 ·exact b o a
 ·exact c o a
theorem Pre.set{h0 h:List Ob}{i:Nat}{o:Ob}(k:Pre h0 h)(hi:h0.length<=i)(c:o.isRes=false):Pre h0 (h.set i o):=by
 obtain⟨L,rfl,b⟩:=k
 refine⟨L.set (i - h0.length) o,by rw[zL _ _ hi],λx a=>?_⟩
 rcases List.mem_or_eq_of_mem_set a with a|a
 ·exact b x a
 ·rw[a];exact c
theorem Pre.resK{h0 h h':List Ob}(k:Pre h0 h)(k':Pre h0 h'):ResK h h':=by
 obtain⟨L,rfl,b⟩:=k
 obtain⟨c,rfl,_⟩:=k'
 intro i hi
 rcases Nat.lt_or_ge i h0.length with a|a
 ·rw[zH a] at hi⊢
  exact hi
 ·rw[zQ a] at hi
  have:=b _ (qi hi)
  cases this
theorem Pre.sin{h0 h:List Ob}(k:Pre h0 h){s:Setup}{a:SA}(q:SIn h0 s a):SIn h s a:=by
 obtain⟨L,rfl,_⟩:=k
 exact q.app L
theorem Pre.sl{h0 h:List Ob}(k:Pre h0 h){x:AV}{e:Nat}{rows:List (List AV)}(q:SlOf h0 x e rows):SlOf h x e rows:=by
 obtain⟨L,rfl,_⟩:=k
 exact q.app L
theorem Pre.len{h0 h:List Ob}(k:Pre h0 h):h0.length<=h.length:=by
 obtain⟨L,rfl,_⟩:=k
 simp
theorem Pre.trans{h0 h h':List Ob}(k:Pre h0 h)(k':Pre h h'):Pre h0 h':=by
 obtain⟨L,rfl,a⟩:=k'
 exact k.app a
theorem zG{o:Ob}(h:o.isRes=false):NoRes [o]:=λx a=>by rw[zN.1 a];exact h
theorem jf:NoRes []:=λ_ h=>by cases h
theorem zr{o:Ob}{L:List Ob}(h:o.isRes=false)(k:NoRes L):NoRes (o::L):=λx a=>by
 rcases zE.1 a with rfl|a
 ·exact h
 ·exact k x a
def OwnS(h0 h:List Ob)(ty e:Nat)(x:AV)(rows:List (List AV)):Prop:=(x= .v (.slice none 0 0)/\rows=[])∨∃id st,h0.length<=id/\x= .tl id st/\h[id]? =some (.row ty e rows st)
theorem OwnS.app{h0 h:List Ob}{ty e:Nat}{x:AV}{rows:List (List AV)}(k:OwnS h0 h ty e x rows)(M:List Ob):OwnS h0 (h++M) ty e x rows:=by
 rcases k with k|⟨id,st,k1,k2,k3⟩
 ·exact .inl k
 ·exact .inr ⟨id,st,k1,k2,zf k3⟩
theorem OwnS.set_box{h0 h:List Ob}{ty e:Nat}{x:AV}{rows:List (List AV)}(k:OwnS h0 h ty e x rows){i t:Nat}{cs:List AV}(hi:h[i]? =some (.box t cs))(o:Ob):OwnS h0 (h.set i o) ty e x rows:=by
 rcases k with k|⟨id,st,k1,k2,k3⟩
 ·exact .inl k
 ·refine .inr ⟨id,st,k1,k2,?_⟩
  have:i≠id:=λq=>by rw[q,k3] at hi;cases hi
  rw[zc this]
  exact k3
theorem OwnS.set_row{h0 h:List Ob}{ty e:Nat}{x:AV}{rows:List (List AV)}(k:OwnS h0 h ty e x rows){i t b s:Nat}{xs:List (List AV)}(hi:h[i]? =some (.row t b xs s))(a:ty≠t)(o:Ob):OwnS h0 (h.set i o) ty e x rows:=by
 rcases k with k|⟨id,st,k1,k2,k3⟩
 ·exact .inl k
 ·refine .inr ⟨id,st,k1,k2,?_⟩
  have:i≠id:=λq=>by rw[q,k3] at hi;injection hi with hi;injection hi with h1;exact a h1
  rw[zc this]
  exact k3
theorem OwnS.rows{h0 h:List Ob}{ty e:Nat}{x:AV}{rows:List (List AV)}(k:OwnS h0 h ty e x rows):SlOf h x e rows:=by
 rcases k with⟨rfl,rfl⟩|⟨id,st,_,rfl,k3⟩
 ·exact⟨rfl,λh=>absurd rfl h⟩
 ·refine⟨?_,λ_=>?_⟩
  ·rw[qU,k3,kQ,if_pos rfl]
  ·rw[jI,k3,vT]
structure Seg where
 from_:Int
 to_:Int
 kind:Int
 id:Int
 code:Int
abbrev kG(g:Seg):List AV:=[i64 g.from_,i64 g.to_,i64 g.kind,i64 g.id,i64 g.code]
structure Flg where
 id:Int
 kind:Int
abbrev xy(f:Flg):List AV:=[i64 f.id,i64 f.kind]
structure TellS where
 open_:Option (Ev × List Ev)
 segs:List Seg
 flags:List Flg
abbrev x0a(e:Ev)(o:AV):List AV:=evC e++[o]
abbrev wX(s:Setup)(a:SA)(p x y:AV):List AV:=qd s a++[p,x,y]
def OpenIn(h0 h:List Ob)(p:AV):Option (Ev × List Ev)->Prop
 | none=>p= .v (.pointer none)
 | some (e,os)=>∃j o,h0.length<=j/\p= .ptr j 0/\h[j]? =some (.box 236 (x0a e o))/\OwnS h0 h 75 11 o (os.map evC)
theorem OpenIn.app{h0 h:List Ob}{p:AV}:∀ {t:Option (Ev × List Ev)},OpenIn h0 h p t->∀M,OpenIn h0 (h++M) p t
 | none,k,_=>k
 | some (e,os),⟨j,o,k1,k2,k3,k4⟩,M=>⟨j,o,k1,k2,zf k3,k4.app M⟩
theorem OpenIn.set_box{h0 h:List Ob}{p:AV}:∀ {t:Option (Ev × List Ev)},OpenIn h0 h p t->∀ {i ty:Nat} {cs:List AV},h[i]? =some (.box ty cs)->ty≠236->∀o,OpenIn h0 (h.set i o) p t
 | none,k,_,_,_,_,_,_=>k
 | some (e,os),⟨j,x,k1,k2,k3,k4⟩,i,ty,cs,hi,a,o=>⟨j,x,k1,k2,by
   have:i≠j:=λq=>by rw[q,k3] at hi;injection hi with hi;injection hi with h1;exact a h1.symm
   rw[zc this];exact k3,k4.set_box hi o⟩
theorem OpenIn.set_row{h0 h:List Ob}{p:AV}:∀ {t:Option (Ev × List Ev)},OpenIn h0 h p t->∀ {i ty e s:Nat} {xs:List (List AV)},h[i]? =some (.row ty e xs s)->ty≠75->∀o,OpenIn h0 (h.set i o) p t
 | none,k,_,_,_,_,_,_,_,_=>k
 | some (e,os),⟨j,x,k1,k2,k3,k4⟩,i,ty,b,s,xs,hi,a,o=>⟨j,x,k1,k2,by
   have:i≠j:=λq=>by rw[q,k3] at hi;cases hi
   rw[zc this];exact k3,k4.set_row hi (Ne.symm a) o⟩
def Kept(F:List (Nat × List AV))(h:List Ob):Prop:=∀z∈F,h[z.1]? =some (.box 75 z.2)
theorem Kept.app{F:List (Nat × List AV)}{h:List Ob}(k:Kept F h)(M:List Ob):Kept F (h++M):=λz a=>zf (k z a)
theorem Kept.set_box{F:List (Nat × List AV)}{h:List Ob}(k:Kept F h){i ty:Nat}{cs:List AV}(hi:h[i]? =some (.box ty cs))(b:ty≠75)(o:Ob):Kept F (h.set i o):=λz c=>by
 have:=k z c
 have a:i≠z.1:=λq=>by rw[q,this] at hi;injection hi with hi;injection hi with hi;exact b hi.symm
 rw[zc a]
 exact this
theorem Kept.set_row{F:List (Nat × List AV)}{h:List Ob}(k:Kept F h){i ty e st:Nat}{xs:List (List AV)}(hi:h[i]? =some (.row ty e xs st))(o:Ob):Kept F (h.set i o):=λz b=>by
 have:=k z b
 have a:i≠z.1:=λq=>by rw[q,this] at hi;cases hi
 rw[zc a]
 exact this
theorem Kept.set_ne{F:List (Nat × List AV)}{h:List Ob}(k:Kept F h){i:Nat}(hi:∀z∈F,z.1≠i)(o:Ob):Kept F (h.set i o):=λz a=>by
 rw[zc (Ne.symm (hi z a))]
 exact k z a
structure TellIn (F:List (Nat × List AV)) (h0 h:List Ob) (i:Nat) (s:Setup) (a:SA) (t:TellS):Prop where
 pre:Pre h0 h
 le:h0.length<=i
 kept:Kept F h
 at_:∃p x y,h[i]? =some (.box 138 (wX s a p x y))/\OwnS h0 h 146 5 x (t.segs.map kG)/\OwnS h0 h 105 2 y (t.flags.map xy)/\OpenIn h0 h p t.open_
theorem TellIn.app{F:List (Nat × List AV)}{h0 h M:List Ob}{i:Nat}{s:Setup}{a:SA}{t:TellS}(k:TellIn F h0 h i s a t)(c:NoRes M):TellIn F h0 (h++M) i s a t:=by
 obtain⟨k1,k2,b,p,x,y,k3,k4,k5,k6⟩:=k
 exact⟨k1.app c,k2,b.app M,p,x,y,zf k3,k4.app M,k5.app M,k6.app M⟩
def wh(t:TellS)(e:Ev)(k:Int):TellS:=⟨t.open_,t.segs,t.flags++[⟨e.id,k⟩]⟩
theorem zK{α:Type}{l M:List α}{n k:Nat}(a:n=l.length):(l++M)[n+k]? =M[k]? :=by
 rw[zQ (by omega),show n+k - l.length=k by omega]
theorem zM{α:Type}{l M:List α}{n:Nat}(a:n=l.length):(l++M)[n]? =M[0]? :=zK (k:=0) a
theorem TellIn.any{F:List (Nat × List AV)}{h0 h:List Ob}{i:Nat}{s:Setup}{a:SA}{t:TellS}(k:TellIn F h0 h i s a t)(b:TellS):∃g x' y' M,NoRes M/\TellIn F h0 (h.set i (.box 138 (wX s a g x' y'))++M) i s a b:=by
 obtain⟨k1,k2,d,p,x,y,k3,k4,k5,k6⟩:=k
 have c:=k1.len
 have hi:i<h.length:=by
  rcases Nat.lt_or_ge i h.length with q|q
  ·exact q
  ·rw[qA q] at k3;cases k3
 cases f:b.open_ with
 | none=>
   refine⟨.v (.pointer none),.tl (h.length+0) 0,.tl (h.length+1) 0,[.row 146 5 (b.segs.map kG) 0,.row 105 2 (b.flags.map xy) 0],zr rfl (zG rfl),(k1.set k2 rfl).app (zr rfl (zG rfl)),k2,(d.set_box k3 (by decide) _).app _,_,_,_,zf (zq k3),.inr ⟨_,0,?_,rfl,?_⟩,.inr ⟨_,0,?_,rfl,?_⟩,?_⟩
   ·omega
   ·rw[zK (by simp)];rfl
   ·omega
   ·rw[zK (by simp)];rfl
   ·rw[f];rfl
 | some q=>
   obtain⟨e,os⟩:=q
   refine⟨.ptr (h.length+3) 0,.tl (h.length+0) 0,.tl (h.length+1) 0,[.row 146 5 (b.segs.map kG) 0,.row 105 2 (b.flags.map xy) 0,.row 75 11 (os.map evC) 0,.box 236 (x0a e (.tl (h.length+2) 0))],zr rfl (zr rfl (zr rfl (zG rfl))),(k1.set k2 rfl).app (zr rfl (zr rfl (zr rfl (zG rfl)))),k2,(d.set_box k3 (by decide) _).app _,_,_,_,zf (zq k3),.inr ⟨_,0,?_,rfl,?_⟩,.inr ⟨_,0,?_,rfl,?_⟩,?_⟩
   ·omega
   ·rw[zK (by simp)];rfl
   ·omega
   ·rw[zK (by simp)];rfl
   ·rw[f]
    refine⟨h.length+3,.tl (h.length+2) 0,?_,rfl,?_,.inr ⟨h.length+2,0,?_,rfl,?_⟩⟩
    ·omega
    ·rw[zK (by simp)];rfl
    ·omega
    ·rw[zK (by simp)];rfl
def XD(k:Int):Int:=if k=3 then 1 else if k=4 then 2 else if k=5 then 3 else 0
def toP(first last to_:Int):Int:=max first (min to_ last)
def y8(t:TellS)(a to_:Int)(e:Ev):TellS:=if a<to_ then⟨t.open_,t.segs++[⟨a,to_,XD e.kind,e.id,e.code⟩],t.flags⟩ else t
theorem TellIn.keep{F:List (Nat × List AV)}{h0 h:List Ob}{i:Nat}{s:Setup}{a:SA}{t:TellS}(k:TellIn F h0 h i s a t)(e:Ev):TellIn ((h.length,evC e)::F) h0 (h++[.box 75 (evC e)]) i s a t:=by
 have q:=k.app (M:=[.box 75 (evC e)]) (zG rfl)
 refine⟨q.pre,q.le,λz b=>?_,q.at_⟩
 rcases zE.1 b with rfl|b
 ·rw[zM rfl];rfl
 ·exact q.kept z b
theorem TellIn.drop{z:Nat × List AV}{F:List (Nat × List AV)}{h0 h:List Ob}{i:Nat}{s:Setup}{a:SA}{t:TellS}(k:TellIn (z::F) h0 h i s a t):TellIn F h0 h i s a t:=⟨k.pre,k.le,λy b=>k.kept y (List.mem_cons_of_mem _ b),k.at_⟩
theorem TellIn.gone{F:List (Nat × List AV)}{h0 h:List Ob}{i id e st:Nat}{xs:List (List AV)}{s:Setup}{a:SA}{t:TellS}(k:TellIn F h0 h i s a t)(hi:h[id]? =some (.row 75 e xs st))(c:h0.length<=id)(d:t.open_=none):TellIn F h0 (h.set id .gone) i s a t:=by
 obtain⟨k1,k2,f,p,x,y,k3,k4,k5,k6⟩:=k
 have b:id≠i:=λq=>by rw[q,k3] at hi;cases hi
 rw[d] at k6
 refine⟨k1.set c rfl,k2,f.set_row hi _,p,x,y,by rw[zc b];exact k3,k4.set_row hi (by decide) _,k5.set_row hi (by decide) _,?_⟩
 rw[d]
 exact k6
structure PartIn (F:List (Nat × List AV)) (h0 h:List Ob) (i nf nl nb nt nq:Nat) (s:Setup) (a:SA) (ow:AV) (ows:List (List AV)) (first last begin_:Int) (by_:Ev) (t:TellS):Prop where
 n1:nf≠nb
 n2:nl≠nb
 n3:h0.length<=nb
 n4:h0.length<=nq
 n5:∀z∈F,z.1≠nq
 b1:h[nf]? =some (.box 3 [i64 first])
 b2:h[nl]? =some (.box 3 [i64 last])
 b3:h[nb]? =some (.box 3 [i64 begin_])
 b4:h[nt]? =some (.box 135 [.ptr i 0])
 b5:h[nq]? =some (.box 75 (evC by_))
 t:TellIn F h0 h i s a t
 b6:OwnS h0 h 75 11 ow ows
theorem TellIn.ex{F:List (Nat × List AV)}{h0 h:List Ob}{i:Nat}{s:Setup}{a:SA}{t:TellS}(k:TellIn F h0 h i s a t)(b:TellS):∃r h',(r=AV.tup []/\TellIn F h0 h' i s a b)/\ResK h h':=by
 obtain⟨c,x',y',M,_,q⟩:=k.any b
 exact⟨_,_,⟨rfl,q⟩,k.pre.resK q.pre⟩
theorem TellIn.set_box{F:List (Nat × List AV)}{h0 h:List Ob}{i k ty:Nat}{s:Setup}{a:SA}{t:TellS}{cs:List AV}{o:Ob}(q:TellIn F h0 h i s a t)(b:h[k]? =some (.box ty cs))(f:ty≠138)(e:ty≠236)(d:h0.length<=k)(j:o.isRes=false)(g:Kept F (h.set k o)):TellIn F h0 (h.set k o) i s a t:=by
 obtain⟨k1,k2,l,p,x,y,k3,k4,k5,k6⟩:=q
 have c:k≠i:=λq=>by rw[q,k3] at b;injection b with b;injection b with b;exact f b.symm
 exact⟨k1.set d j,k2,g,p,x,y,by rw[zc c];exact k3,k4.set_box b o,k5.set_box b o,k6.set_box b e o⟩
theorem vz{h:List Ob}{i j t u:Nat}{cs ds:List AV}(hi:h[i]? =some (.box t cs))(a:h[j]? =some (.box u ds))(b:t≠u):i≠j:=λq=>by
 rw[q,a] at hi;injection hi with hi;injection hi with hi;exact b hi.symm
theorem PartIn.next{F:List (Nat × List AV)}{h0 h:List Ob}{i n nl g nt f:Nat}{s:Setup}{a:SA}{o:AV}{e:List (List AV)}{first last b:Int}{d:Ev}{t:TellS}(k:PartIn F h0 h i n nl g nt f s a o e first last b d t)(j:Int)(m:Ev):
  PartIn F h0 ((h.set g (.box 3 [i64 j])).set f (.box 75 (evC m))) i n nl g nt f s a o e first last j m t:=by
 have r:=vz k.b5 k.b1 (by decide)
 have q:=vz k.b5 k.b2 (by decide)
 have l:=vz k.b5 k.b3 (by decide)
 have p:=vz k.b5 k.b4 (by decide)
 have u:=vz k.b3 k.b4 (by decide)
 have c:(h.set g (.box 3 [i64 j]))[f]? =some (.box 75 (evC d)):=by rw[zc (Ne.symm l)];exact k.b5
 refine⟨k.n1,k.n2,k.n3,k.n4,k.n5,?_,?_,?_,?_,zq c,(k.t.set_box k.b3 (by decide) (by decide) k.n3 rfl (k.t.kept.set_box k.b3 (by decide) _)).set_box c (by decide) (by decide) k.n4 rfl ((k.t.kept.set_box k.b3 (by decide) _).set_ne k.n5 _),(k.b6.set_box k.b3 _).set_box c _⟩
 ·rw[zc r,zc (Ne.symm k.n1)];exact k.b1
 ·rw[zc q,zc (Ne.symm k.n2)];exact k.b2
 ·rw[zc l];exact zq k.b3
 ·rw[zc p,zc u];exact k.b4
theorem PartIn.tell{F:List (Nat × List AV)}{h0 h:List Ob}{i n nl m nt l:Nat}{s:Setup}{a:SA}{r:AV}{d:List (List AV)}{first last b:Int}{c:Ev}{t f:TellS}{cs:List AV}{M:List Ob}(k:PartIn F h0 h i n nl m nt l s a r d first last b c t)(q:TellIn F h0 (h.set i (.box 138 cs)++M) i s a f):
  PartIn F h0 (h.set i (.box 138 cs)++M) i n nl m nt l s a r d first last b c f:=by
 obtain⟨p,x,y,k3,_⟩:=k.t.at_
 have A:=vz k3 k.b1 (by decide)
 have z:=vz k3 k.b2 (by decide)
 have v:=vz k3 k.b3 (by decide)
 have w:=vz k3 k.b4 (by decide)
 have B:=vz k3 k.b5 (by decide)
 have g:∀ {j:Nat} {o:Ob},i≠j->h[j]? =some o->(h.set i (.box 138 cs)++M)[j]? =some o:=λe u=>zf (by rw[zc e];exact u)
 exact⟨k.n1,k.n2,k.n3,k.n4,k.n5,g A k.b1,g z k.b2,g v k.b3,g w k.b4,g B k.b5,q,(k.b6.set_box k3 _).app _⟩
theorem PartIn.tell2{F:List (Nat × List AV)}{h0 h:List Ob}{i v nl u nt o id ty e st:Nat}{xs:List (List AV)}{r:Ob}{s:Setup}{a:SA}{w:AV}{f:List (List AV)}{first last b:Int}{d:Ev}{t n:TellS}{cs:List AV}{M:List Ob}(k:PartIn F h0 h i v nl u nt o s a w f first last b d t)(c:h[id]? =some (.row ty e xs st))(E:75≠ty)(q:TellIn F h0 ((h.set id r).set i (.box 138 cs)++M) i s a n):
  PartIn F h0 ((h.set id r).set i (.box 138 cs)++M) i v nl u nt o s a w f first last b d n:=by
 obtain⟨p,x,y,k3,_⟩:=k.t.at_
 have C:=vz k3 k.b1 (by decide)
 have B:=vz k3 k.b2 (by decide)
 have z:=vz k3 k.b3 (by decide)
 have A:=vz k3 k.b4 (by decide)
 have D:=vz k3 k.b5 (by decide)
 have g:∀ {j t:Nat} {ds:List AV},i≠j->h[j]? =some (.box t ds)->((h.set id r).set i (.box 138 cs)++M)[j]? =some (.box t ds):=λm l=>zf (by
  have:∀ {j t:Nat} {ds:List AV},h[j]? =some (.box t ds)->id≠j:=λl q=>by rw[q,l] at c;cases c
  rw[zc m,zc (this l)];exact l)
 exact⟨k.n1,k.n2,k.n3,k.n4,k.n5,g C k.b1,g B k.b2,g z k.b3,g A k.b4,g D k.b5,q,((k.b6.set_row c E _).set_box (show(h.set id r)[i]? =some (.box 138 (wX s a p x y)) by rw[zc (λq=>by rw[q,k3] at c;cases c)];exact k3) _).app _⟩
theorem PartIn.pre{F:List (Nat × List AV)}{h0 h:List Ob}{i g nl f nt e:Nat}{s:Setup}{a:SA}{j:AV}{d:List (List AV)}{first last b:Int}{c:Ev}{t:TellS}(k:PartIn F h0 h i g nl f nt e s a j d first last b c t):Pre h0 h:=k.t.pre
theorem PartIn.app{F:List (Nat × List AV)}{h0 h M:List Ob}{i g nl f nt e:Nat}{s:Setup}{a:SA}{j:AV}{d:List (List AV)}{first last b:Int}{c:Ev}{t:TellS}(k:PartIn F h0 h i g nl f nt e s a j d first last b c t)(l:NoRes M):PartIn F h0 (h++M) i g nl f nt e s a j d first last b c t:=
 ⟨k.n1,k.n2,k.n3,k.n4,k.n5,zf k.b1,zf k.b2,zf k.b3,zf k.b4,zf k.b5,k.t.app l,k.b6.app M⟩
theorem PartIn.any{F:List (Nat × List AV)}{h0 h:List Ob}{i m nl l nt j:Nat}{s:Setup}{a:SA}{n:AV}{c:List (List AV)}{first last b:Int}{d:Ev}{t:TellS}(k:PartIn F h0 h i m nl l nt j s a n c first last b d t)(f:Int)(g:Ev)(e:TellS):
  ∃r h',(r=AV.tup []/\PartIn F h0 h' i m nl l nt j s a n c first last f g e)/\ResK h h':=by
 have k2:=k.next f g
 obtain⟨o,x',y',M,_,q⟩:=k2.t.any e
 have k3:=k2.tell q
 exact⟨_,_,⟨rfl,k3⟩,k.pre.resK k3.pre⟩
def y9(first last:Int)(z:Int × Ev × TellS)(x:Ev):Int × Ev × TellS:=(toP first last x.at_,x,y8 z.2.2 z.1 (toP first last x.at_) z.2.1)
theorem Wh{t:TellS}{b to_:Int}{e:Ev}:(y8 t b to_ e).flags=t.flags:=by unfold y8;split<;>rfl
theorem qJa{t:TellS}{b to_:Int}{e:Ev}:(y8 t b to_ e).segs.length<=t.segs.length+1:=by unfold y8;split<;>simp
theorem Vz{first last:Int}(os:List Ev):∀ {z:Int × Ev × TellS},(os.foldl (y9 first last) z).2.2.segs.length<=z.2.2.segs.length+os.length:=by
 induction os with
 | nil=>intro z;simp
 | cons x os d=>
   intro z
   rw[List.foldl_cons]
   have c:=d (z:=y9 first last z x)
   have f:=qJa (t:=z.2.2) (b:=z.1) (to_:=toP first last x.at_) (e:=z.2.1)
   have a:(y9 first last z x).2.2=y8 z.2.2 z.1 (toP first last x.at_) z.2.1:=rfl
   rw[a] at c
   rw[List.length_cons]
   omega
def vL(first last:Int)(t:TellS)(e:Ev)(os:List Ev):Int × Ev × TellS:=os.foldl (y9 first last) (first,e,t)
def wB(first last:Int)(t:TellS)(e:Ev)(os:List Ev):TellS:=y8 (vL first last t e os).2.2 (vL first last t e os).1 (toP first last last) (vL first last t e os).2.1
theorem v3a{first last:Int}(os:List Ev):∀ {z:Int × Ev × TellS},(os.foldl (y9 first last) z).2.2.flags=z.2.2.flags:=by
 induction os with
 | nil=>intro z;rfl
 | cons x os a=>
   intro z
   rw[List.foldl_cons,a]
   exact Wh
theorem x1a{first last:Int}{t:TellS}{e:Ev}{os:List Ev}:(vL first last t e os).2.2.flags=t.flags:=v3a os
