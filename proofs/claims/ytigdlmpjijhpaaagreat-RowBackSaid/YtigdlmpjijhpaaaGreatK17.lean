import Derived.Test.YtigdlmpjijhpaaaGreatKA
import Derived.Test.YtigdlmpjijhpaaaGreatK16
set_option linter.all false
namespace Go.Proofs.YtigdlmpjijhpaaaGreat.Ax
open Go Go.Proofs
set_option maxRecDepth 100000
theorem VWa{k:Nat}(h:k<1099511627776):wr (2*(k:Int))=((2*k:Nat):Int):=by rw[qb (by unfold Fit;omega)];omega
theorem VXa{k:Nat}(h:k<1099511627776):wr ((k:Int)*2)=((2*k:Nat):Int):=by rw[qb (by unfold Fit;omega)];omega
theorem dle{a b:Nat}(e:decide ((a:Int)<=(b:Int))=true):a<=b:=by simpa using e
theorem VYa{a b:Nat}(e:decide ((a:Int)<=(b:Int))=false):b<a:=by simpa using e
theorem Q8{l:List Ev}{n:Nat}(h:n<=l.length):∃a b,l=a++b/\a.length=n:=⟨l.take n,l.drop n,(qr _ _).symm,by simp;omega⟩
set_option maxHeartbeats 1000000 in
theorem Yqa(h:List Ob)(id st n:Nat)(l:List Ev)(hi:h[id]? =some (ja l st))(E:n=l.length)(P:l.length<1099511627776):
  ACalls Tryz.prog 179 [.tl id st,i64 n,.fn (.func 111) [] []] h λr h'=>r= .tup []/\h'=h.set id (ja (qj l) st):=by
 have t:∀o,(h.set id o)[id]? =some o:=λo=>zq hi
 refine zl Tryz.f179 [] 63 rfl rfl rfl rfl rfl rfl (by decide) (⟨_,_,⟨rfl,rfl⟩,qH hi rfl⟩) λB=>?_
 simp only[go_sem]
 refine zO (by decide) (λk T h'=>∃D R,D++blkE 20 R=blkE 20 l/\D.length+R.length=n/\h'=h.set id (ja (D++R) st)/\T 0= .tl id st/\T 1=i64 n/\T 2= .fn (.func 111) [] []/\T 6=i64 (20:Nat)/\T 7=i64 D.length/\T 8=i64 (D.length+20:Nat)/\k=R.length) l.length
  ⟨[],l,rfl,by simp[E],(qX hi).symm,by simp only[go_sem],by simp only[go_sem],by simp only[go_sem],by(simp only[go_sem]<;>rfl),by(simp only[go_sem]<;>rfl),by(simp only[go_sem]<;>rfl),rfl⟩ ?_
 rintro k T h' ⟨D,R,f,p,rfl,t0,t1,t2,t6,i,t8,rfl⟩
 simp only[go_sem,t1,t8]
 refine ways (λe=>?_) (λe=>?_)
 ·have x:=dle e
  obtain⟨d,c,rfl,g⟩:=Q8 (l:=R) (n:=20) (by omega)
  simp only[ze] at p
  have s:wr (((D.length+20:Nat):Int)+20)=((D.length+20+20:Nat):Int):=Zl (b:=20) (by omega)
  rw[QF g (by omega)] at f
  have Q:=jQ d
  simp only[go_sem,t0,t2,t6,i,t8]
  refine zi (VVa _ id st _ _ D d c (t _) rfl (by omega) (by simp;omega)) ?_
  rintro _ v ⟨rfl,j⟩
  subst j
  simp only[go_sem,t8,t6,s,qh]
  exact⟨c.length,by omega,D++qj d,c,by rw[<-f];simp,by simp;omega,by simp,t0,t1,t2,xl (by simp;omega),xl (by simp;omega),rfl⟩
 ·have q:=VYa e
  have K:R.length<20:=by omega
  rw[Zc (by omega)] at f
  simp only[go_sem,t0,t1,t2,i]
  refine zi (VVa _ id st _ _ D R [] (by rw[t];simp) rfl (by omega) (by simp;omega)) ?_
  rintro _ v ⟨rfl,j⟩
  subst j
  rw[zU,f]
  simp only[go_sem,qh]
  refine zO (by decide) (λk T h'=>∃a:Nat,0<a/\a<2199023255552/\h'=h.set id (ja (blkE a l) st)/\T 0= .tl id st/\T 1=i64 n/\T 2= .fn (.func 111) [] []/\T 6=i64 a/\k=n - a) (n - 20)
   ⟨20,by omega,by omega,rfl,by simp only[go_sem,t0],by simp only[go_sem,t1],by simp only[go_sem,t2],by simp only[go_sem,t6],rfl⟩ ?_
  clear t0 t1 t2 t6 i t8 f p K q e
  rintro k T h' ⟨a,J,H,rfl,t0,t1,t2,t6,rfl⟩
  simp only[go_sem,t1,t6]
  refine ways (λe=>?_) (λe=>?_)
  ·have M:=dlt e
   have s:=VWa (k:=a) (by omega)
   have G:=VXa (k:=a) (by omega)
   simp only[go_sem,t6,s]
   refine zO (by decide) (λk T h'=>∃D R,D++blkE (2*a) R=blkE (2*a) l/\D.length+R.length=n/\h'=h.set id (ja (D++blkE a R) st)/\T 0= .tl id st/\T 1=i64 n/\T 2= .fn (.func 111) [] []/\T 6=i64 a/\T 7=i64 D.length/\T 8=i64 (D.length+2*a:Nat)/\k=R.length) l.length
    ⟨[],l,rfl,by simp[E],rfl,by simp only[go_sem,t0],by simp only[go_sem,t1],by simp only[go_sem,t2],by simp only[go_sem,t6],by(simp only[go_sem]<;>rfl),by(simp only[go_sem]<;>exact xl (by simp)),rfl⟩ ?_
   clear t0 t1 t2 t6
   rintro k T h' ⟨D,R,f,p,rfl,t0,t1,t2,t6,i,t8,rfl⟩
   simp only[go_sem,t1,t8]
   refine ways (λe=>?_) (λe=>?_)
   ·have x:=dle e
    obtain⟨d,L,rfl,g⟩:=Q8 (l:=R) (n:=a) (by omega)
    obtain⟨c,m,rfl,A⟩:=Q8 (l:=L) (n:=a) (by simp at p;omega)
    simp only[ze] at p
    have z:wr (((D.length:Nat):Int)+(a:Int))=((D.length+a:Nat):Int):=Zl (by omega)
    have N:wr (((D.length+2*a:Nat):Int)+((2*a:Nat):Int))=((D.length+2*a+2*a:Nat):Int):=Zl (by omega)
    have I:blkE (2*a) (d++(c++m))=qj (d++c)++blkE (2*a) m:=by
     rw[<-zn,QF (by simp;omega) (by omega)]
    rw[I] at f
    rw[QF g (by omega),QF A (by omega)]
    have y:=jQ d
    have C:=jQ c
    have w:=jQ (d++c)
    simp only[ze] at w
    have O:=Zfa a m
    simp only[go_sem,t0,t2,t6,i,t8,z]
    refine zi (Jba _ _ id st _ _ _ D (qj d) (qj c) (blkE a m) (t _) rfl (by omega) (by omega) (by omega) (by omega) (vl _) (vl _) (by omega) (zo _)) ?_
    rintro _ v ⟨rfl,j⟩
    subst j
    rw[ZU]
    simp only[go_sem,t8,t6,s,N,qh]
    exact⟨m.length,by omega,D++qj (d++c),m,by rw[<-f];simp,by simp;omega,by simp,t0,t1,t2,xl (by simp;omega),xl (by simp;omega),rfl⟩
   ·have q:=VYa e
    have z:wr (((D.length:Nat):Int)+(a:Int))=((D.length+a:Nat):Int):=Zl (by omega)
    simp only[go_sem,t1,t6,i,z]
    refine ways (λe=>?_) (λe=>?_)
    ·have F:=dlt e
     obtain⟨d,c,rfl,g⟩:=Q8 (l:=R) (n:=a) (by omega)
     simp only[ze] at p
     rw[QF g (by omega),Zc (by omega)]
     rw[Zc (by simp;omega), <-ZU] at f
     have y:=jQ d
     have C:=jQ c
     simp only[go_sem,t0,t1,t2,t6,i]
     refine zi (Jba _ _ id st _ _ _ D (qj d) (qj c) [] (by rw[t];simp) rfl (by omega) (by omega) (by omega) (by omega) (vl _) (vl _) (by simp;omega) (zo _)) ?_
     rintro _ v ⟨rfl,j⟩
     subst j
     rw[zU,f]
     simp only[go_sem,t6,G,qh]
     exact⟨n - 2*a,by omega,2*a,by omega,by omega,rfl,t0,t1,t2,rfl,rfl⟩
    ·have u:=xc e
     rw[Zc (by omega)]
     rw[Zc (by omega)] at f
     rw[f]
     simp only[go_sem,t6,G]
     exact⟨n - 2*a,by omega,2*a,by omega,by omega,rfl,t0,t1,t2,rfl,rfl⟩
  ·have u:=xc e
   rw[Zc (by omega)]
   simp only[go_sem]
   exact⟨.tup [],by simp only[go_sem],.inl ⟨rfl,rfl⟩⟩
theorem qZa{h:List Ob}{x:AV}{r:List AV}{rs:List (List AV)}(b:zZ h x=some (r::rs)):(∃e xs,x= .sl e xs)∨(∃i s,x= .tl i s)∨(∃a e i n,x= .vw a e i n):=by
 cases x with
 | sl e xs=>exact .inl ⟨_,_,rfl⟩
 | tl i s=>exact .inr (.inl ⟨_,_,rfl⟩)
 | vw a e i n=>exact .inr (.inr ⟨_,_,_,_,rfl⟩)
 | v x=>
   unfold zZ at b
   split at b<;>rename_i heq<;>first
    | (cases heq;done)
    | (injection heq with heq;subst heq;injection b with b;cases b)
    | cases b
 | em=>injection b with b;cases b
 | _=>cases b
theorem Koa(l:List Ev):((l.map evC).all λr=>r.length==11 && r.all AV.one)=true:=by
 rw[zL]
 intro r a
 obtain⟨e,_,rfl⟩:=zx.1 a
 rfl
theorem VZa(x f:AV):xv Tryz.prog 237 [x,i64 0,i64 0,f] (.tup []):=λh=>by
 refine zl Tryz.f237 [] 53 rfl rfl rfl rfl rfl rfl (by decide) (⟨_,_,⟨rfl,rfl⟩,.refl⟩) λB=>?_
 simp only[go_sem]
 refine wy 1 (j7 (by decide) ?_)
 simp only[go_sem]
 refine zk ?_<;>(simp only[go_sem]<;>try rfl)
theorem V0a(x f:AV):xv Tryz.prog 179 [x,i64 0,f] (.tup []):=λh=>by
 refine zl Tryz.f179 [] 63 rfl rfl rfl rfl rfl rfl (by decide) (⟨_,_,⟨rfl,rfl⟩,.refl⟩) λB=>?_
 simp only[go_sem]
 refine wy 1 (j7 (by decide) ?_)
 simp only[go_sem]
 refine zi (VZa _ _ _) ?_
 rintro _ b ⟨rfl,a⟩
 subst a
 simp only[go_sem]
 refine wy 1 (j7 (by decide) ?_)
 simp only[go_sem]
 refine zk ?_<;>(simp only[go_sem]<;>try rfl)
theorem c88(h:List Ob)(id st:Nat)(l:List Ev)(hi:h[id]? =some (ja l st))(b:l.length<1099511627776):
  ACalls Tryz.prog 110 [.tl id st,.fn (.func 111) [] []] h λr h'=>r= .tup []/\h'=h.set id (ja (qj l) st):=by
 refine zl Tryz.f110 [] 9 rfl rfl rfl rfl rfl rfl (by decide) (⟨_,_,⟨rfl,rfl⟩,qH hi rfl⟩) λB=>?_
 simp only[go_sem,hi,zb]
 refine zi (Yqa _ id st _ l hi rfl b) ?_
 rintro _ c ⟨rfl,a⟩
 subst a
 simp only[go_sem]
 exact⟨.tup [],by simp only[go_sem],.inl ⟨rfl,rfl⟩⟩
theorem Yra(f:AV):xv Tryz.prog 110 [.v (.slice none 0 0),f] (.tup []):=λh=>by
 refine zl Tryz.f110 [] 9 rfl rfl rfl rfl rfl rfl (by decide) (⟨_,_,⟨rfl,rfl⟩,.refl⟩) λB=>?_
 simp only[go_sem]
 refine zi (V0a _ _ _) ?_
 rintro _ b ⟨rfl,a⟩
 subst a
 simp only[go_sem]
 refine zk ?_<;>(simp only[go_sem]<;>try rfl)
theorem c87(h:List Ob)(x:AV)(l:List Ev)(g:SlOf h x 11 (l.map evC))(t:l.length<1099511627776):
  ACalls Tryz.prog 109 [x] h λr h'=>(l=[]/\h'=h/\r= .v (.slice none 0 0))∨(h'=h++[ja l 1]/\r= .tl h.length 1):=by
 refine yu (N:=8) (rs:=[.tmp 2]) (fn:=Tryz.f109) rfl rfl rfl rfl (ji rfl) rfl (⟨_,_,.inr ⟨rfl,rfl⟩,q8⟩) λB=>?_
 cases l with
 | nil=>
   refine kNa 0 rfl g.rows (λm=>?_) ?_
   ·refine qz _ (by decide) ?_;simp only[go_sem]
    exact⟨.v (.slice none 0 0),by simp only[go_sem],.inl (.inl ⟨rfl,rfl⟩)⟩
   ·refine qz _ (by decide) ?_;simp only[go_sem]
    exact⟨.tl h.length 1,by simp only[go_sem],.inl (.inr ⟨rfl,rfl⟩)⟩
 | cons y l=>
   have q:=g.at (i:=0) (by simp)
   have f:=g.rows
   have p:Qq x=false:=by
    rcases qZa f with⟨e,xs,rfl⟩|⟨i,s,rfl⟩|⟨a,e,i,n,rfl⟩<;>rfl
   unfold Qq at p
   have b:∀L,zZ (h++L) x=some ((y::l).map evC):=λL=>(g.app L).rows
   have j:=Koa (y::l)
   have d:((y::l).map evC).length*89<=140737488355328:=by rw[zb];omega
   obtain⟨L,k⟩:∃L,L=(y::l).map evC:=⟨_,rfl⟩
   rw[<-k] at f b j d
   obtain⟨r,o,c⟩:∃r o,L=r::o:=⟨_,_,k⟩
   rw[c] at f b j d
   rw[List.length_cons] at d
   refine qz _ (by decide) ?_;simp only[go_sem,f,q,p,b,j,d,Bool.or_true,decide_true]
   refine⟨.tl h.length 1,by simp only[go_sem],.inl (.inr ⟨?_,rfl⟩)⟩
   rw[<-c,k]
theorem c57(h:List Ob)(x:AV)(l:List Ev)(d:SlOf h x 11 (l.map evC))(b:l.length<1099511627776):
  ACalls Tryz.prog 53 [x] h λr h'=>(l=[]/\h'=h/\r= .v (.slice none 0 0))∨(h'=h++[ja (qj l) 1]/\r= .tl h.length 1):=by
 refine zl Tryz.f53 [.tmp 2] 9 rfl rfl rfl rfl rfl rfl (by decide) (⟨_,_,.inr ⟨rfl,rfl⟩,q8⟩) λB=>?_
 simp only[go_sem]
 refine zi (c87 h x l d b) ?_
 rintro _ f (⟨rfl,rfl,rfl⟩|⟨rfl,rfl⟩)
 ·simp only[go_sem]
  refine zi (Yra _ _) ?_
  rintro _ e ⟨rfl,a⟩
  subst a
  simp only[go_sem]
  exact⟨.v (.slice none 0 0),by simp only[go_sem],.inl (.inl ⟨rfl,rfl⟩)⟩
 ·have c:(h++[ja l 1])[h.length]? =some (ja l 1):=by simp
  simp only[go_sem]
  refine zi (c88 _ _ _ l c b) ?_
  rintro _ e ⟨rfl,a⟩
  subst a
  simp only[go_sem]
  refine⟨.tl h.length 1,by simp only[go_sem],.inl (.inr ⟨?_,rfl⟩)⟩
  simp
def NoRes(L:List Ob):Prop:=∀o∈L,o.isRes=false
def Pre(h0 h:List Ob):Prop:=∃L,h=h0++L/\NoRes L
theorem Pre.refl{h:List Ob}:Pre h h:=⟨[],by simp,λ_ h=>by cases h⟩
theorem Pre.app{h0 h M:List Ob}(k:Pre h0 h)(b:NoRes M):Pre h0 (h++M):=by
 obtain⟨L,rfl,c⟩:=k
 refine⟨L++M,by simp,λo a=>?_⟩
 rcases zK.1 a with a|a
 ·exact c o a
 ·exact b o a
theorem Pre.set{h0 h:List Ob}{i:Nat}{o:Ob}(k:Pre h0 h)(hi:h0.length<=i)(b:o.isRes=false):Pre h0 (h.set i o):=by
 obtain⟨L,rfl,c⟩:=k
 refine⟨L.set (i - h0.length) o,by rw[zR _ _ hi],λx a=>?_⟩
 rcases List.mem_or_eq_of_mem_set a with a|a
 ·exact c x a
 ·rw[a];exact b
theorem Pre.resK{h0 h h':List Ob}(k:Pre h0 h)(k':Pre h0 h'):ResK h h':=by
 obtain⟨L,rfl,b⟩:=k
 obtain⟨c,rfl,_⟩:=k'
 intro i hi
 rcases Nat.lt_or_ge i h0.length with a|a
 ·rw[zC a] at hi⊢
  exact hi
 ·rw[zI a] at hi
  have:=b _ (qn hi)
  cases this
theorem Pre.sin{h0 h:List Ob}(k:Pre h0 h){s:Setup}{a:SA}(q:SIn h0 s a):SIn h s a:=by
 obtain⟨L,rfl,_⟩:=k
 exact q.app L
theorem Pre.sl{h0 h:List Ob}(k:Pre h0 h){x:AV}{e:Nat}{rows:List (List AV)}(q:SlOf h0 x e rows):SlOf h x e rows:=by
 obtain⟨L,rfl,_⟩:=k
 exact q.app L
theorem Pre.len{h0 h:List Ob}(k:Pre h0 h):h0.length<=h.length:=by
 obtain⟨L,rfl,_⟩:=k
 simp
theorem Pre.trans{h0 h h':List Ob}(k:Pre h0 h)(k':Pre h h'):Pre h0 h':=by
 obtain⟨L,rfl,a⟩:=k'
 exact k.app a
theorem zF{o:Ob}(h:o.isRes=false):NoRes [o]:=λx a=>by rw[zJ.1 a];exact h
theorem xr:NoRes []:=λ_ h=>by cases h
theorem zp{o:Ob}{L:List Ob}(h:o.isRes=false)(k:NoRes L):NoRes (o::L):=λx a=>by
 rcases zH.1 a with rfl|a
 ·exact h
 ·exact k x a
def OwnS(h0 h:List Ob)(ty e:Nat)(x:AV)(rows:List (List AV)):Prop:=(x= .v (.slice none 0 0)/\rows=[])∨∃id st,h0.length<=id/\x= .tl id st/\h[id]? =some (.row ty e rows st)
theorem OwnS.app{h0 h:List Ob}{ty e:Nat}{x:AV}{rows:List (List AV)}(k:OwnS h0 h ty e x rows)(M:List Ob):OwnS h0 (h++M) ty e x rows:=by
 rcases k with k|⟨id,st,k1,k2,k3⟩
 ·exact .inl k
 ·exact .inr ⟨id,st,k1,k2,zf k3⟩
theorem OwnS.set_box{h0 h:List Ob}{ty e:Nat}{x:AV}{rows:List (List AV)}(k:OwnS h0 h ty e x rows){i t:Nat}{cs:List AV}(hi:h[i]? =some (.box t cs))(o:Ob):OwnS h0 (h.set i o) ty e x rows:=by
 rcases k with k|⟨id,st,k1,k2,k3⟩
 ·exact .inl k
 ·refine .inr ⟨id,st,k1,k2,?_⟩
  have:i≠id:=λq=>by rw[q,k3] at hi;cases hi
  rw[zc this]
  exact k3
theorem OwnS.set_row{h0 h:List Ob}{ty e:Nat}{x:AV}{rows:List (List AV)}(k:OwnS h0 h ty e x rows){i t a s:Nat}{xs:List (List AV)}(hi:h[i]? =some (.row t a xs s))(b:ty≠t)(o:Ob):OwnS h0 (h.set i o) ty e x rows:=by
 rcases k with k|⟨id,st,k1,k2,k3⟩
 ·exact .inl k
 ·refine .inr ⟨id,st,k1,k2,?_⟩
  have:i≠id:=λq=>by rw[q,k3] at hi;injection hi with hi;injection hi with h1;exact b h1
  rw[zc this]
  exact k3
theorem OwnS.rows{h0 h:List Ob}{ty e:Nat}{x:AV}{rows:List (List AV)}(k:OwnS h0 h ty e x rows):SlOf h x e rows:=by
 rcases k with⟨rfl,rfl⟩|⟨id,st,_,rfl,k3⟩
 ·exact⟨rfl,λh=>absurd rfl h⟩
 ·refine⟨?_,λ_=>?_⟩
  ·rw[qS,k3,vO,if_pos rfl]
  ·rw[j5,k3,yh]
structure Seg where
 from_:Int
 to_:Int
 kind:Int
 id:Int
 code:Int
abbrev vb(g:Seg):List AV:=[i64 g.from_,i64 g.to_,i64 g.kind,i64 g.id,i64 g.code]
structure Flg where
 id:Int
 kind:Int
abbrev jT(f:Flg):List AV:=[i64 f.id,i64 f.kind]
structure TellS where
 open_:Option (Ev × List Ev)
 segs:List Seg
 flags:List Flg
abbrev q0a(e:Ev)(o:AV):List AV:=evC e++[o]
abbrev wm(s:Setup)(a:SA)(p x y:AV):List AV:=qa s a++[p,x,y]
def OpenIn(h0 h:List Ob)(p:AV):Option (Ev × List Ev)->Prop
 | none=>p= .v (.pointer none)
 | some (e,os)=>∃j o,h0.length<=j/\p= .ptr j 0/\h[j]? =some (.box 236 (q0a e o))/\OwnS h0 h 75 11 o (os.map evC)
theorem OpenIn.app{h0 h:List Ob}{p:AV}:∀ {t:Option (Ev × List Ev)},OpenIn h0 h p t->∀M,OpenIn h0 (h++M) p t
 | none,k,_=>k
 | some (e,os),⟨j,o,k1,k2,k3,k4⟩,M=>⟨j,o,k1,k2,zf k3,k4.app M⟩
theorem OpenIn.set_box{h0 h:List Ob}{p:AV}:∀ {t:Option (Ev × List Ev)},OpenIn h0 h p t->∀ {i ty:Nat} {cs:List AV},h[i]? =some (.box ty cs)->ty≠236->∀o,OpenIn h0 (h.set i o) p t
 | none,k,_,_,_,_,_,_=>k
 | some (e,os),⟨j,x,k1,k2,k3,k4⟩,i,ty,cs,hi,a,o=>⟨j,x,k1,k2,by
   have:i≠j:=λq=>by rw[q,k3] at hi;injection hi with hi;injection hi with h1;exact a h1.symm
   rw[zc this];exact k3,k4.set_box hi o⟩
theorem OpenIn.set_row{h0 h:List Ob}{p:AV}:∀ {t:Option (Ev × List Ev)},OpenIn h0 h p t->∀ {i ty e s:Nat} {xs:List (List AV)},h[i]? =some (.row ty e xs s)->ty≠75->∀o,OpenIn h0 (h.set i o) p t
 | none,k,_,_,_,_,_,_,_,_=>k
 | some (e,os),⟨j,x,k1,k2,k3,k4⟩,i,ty,b,s,xs,hi,a,o=>⟨j,x,k1,k2,by
   have:i≠j:=λq=>by rw[q,k3] at hi;cases hi
   rw[zc this];exact k3,k4.set_row hi (Ne.symm a) o⟩
def Kept(F:List (Nat × List AV))(h:List Ob):Prop:=∀z∈F,h[z.1]? =some (.box 75 z.2)
theorem Kept.app{F:List (Nat × List AV)}{h:List Ob}(k:Kept F h)(M:List Ob):Kept F (h++M):=λz a=>zf (k z a)
theorem Kept.set_box{F:List (Nat × List AV)}{h:List Ob}(k:Kept F h){i ty:Nat}{cs:List AV}(hi:h[i]? =some (.box ty cs))(b:ty≠75)(o:Ob):Kept F (h.set i o):=λz c=>by
 have:=k z c
 have a:i≠z.1:=λq=>by rw[q,this] at hi;injection hi with hi;injection hi with hi;exact b hi.symm
 rw[zc a]
 exact this
theorem Kept.set_row{F:List (Nat × List AV)}{h:List Ob}(k:Kept F h){i ty e st:Nat}{xs:List (List AV)}(hi:h[i]? =some (.row ty e xs st))(o:Ob):Kept F (h.set i o):=λz b=>by
 have:=k z b
 have a:i≠z.1:=λq=>by rw[q,this] at hi;cases hi
 rw[zc a]
 exact this
theorem Kept.set_ne{F:List (Nat × List AV)}{h:List Ob}(k:Kept F h){i:Nat}(hi:∀z∈F,z.1≠i)(o:Ob):Kept F (h.set i o):=λz a=>by
 rw[zc (Ne.symm (hi z a))]
 exact k z a
structure TellIn (F:List (Nat × List AV)) (h0 h:List Ob) (i:Nat) (s:Setup) (a:SA) (t:TellS):Prop where
 pre:Pre h0 h
 le:h0.length<=i
 kept:Kept F h
 at_:∃p x y,h[i]? =some (.box 138 (wm s a p x y))/\OwnS h0 h 146 5 x (t.segs.map vb)/\OwnS h0 h 105 2 y (t.flags.map jT)/\OpenIn h0 h p t.open_
theorem TellIn.app{F:List (Nat × List AV)}{h0 h M:List Ob}{i:Nat}{s:Setup}{a:SA}{t:TellS}(k:TellIn F h0 h i s a t)(c:NoRes M):TellIn F h0 (h++M) i s a t:=by
 obtain⟨k1,k2,b,p,x,y,k3,k4,k5,k6⟩:=k
 exact⟨k1.app c,k2,b.app M,p,x,y,zf k3,k4.app M,k5.app M,k6.app M⟩
def vz(t:TellS)(e:Ev)(k:Int):TellS:=⟨t.open_,t.segs,t.flags++[⟨e.id,k⟩]⟩
theorem zN{α:Type}{l M:List α}{n k:Nat}(a:n=l.length):(l++M)[n+k]? =M[k]? :=by
 rw[zI (by omega),show n+k - l.length=k by omega]
theorem zM{α:Type}{l M:List α}{n:Nat}(a:n=l.length):(l++M)[n]? =M[0]? :=zN (k:=0) a
theorem TellIn.any{F:List (Nat × List AV)}{h0 h:List Ob}{i:Nat}{s:Setup}{a:SA}{t:TellS}(k:TellIn F h0 h i s a t)(b:TellS):∃g x' y' M,NoRes M/\TellIn F h0 (h.set i (.box 138 (wm s a g x' y'))++M) i s a b:=by
 obtain⟨k1,k2,c,p,x,y,k3,k4,k5,k6⟩:=k
 have d:=k1.len
 have hi:i<h.length:=by
  rcases Nat.lt_or_ge i h.length with q|q
  ·exact q
  ·rw[qf q] at k3;cases k3
 cases f:b.open_ with
 | none=>
   refine⟨.v (.pointer none),.tl (h.length+0) 0,.tl (h.length+1) 0,[.row 146 5 (b.segs.map vb) 0,.row 105 2 (b.flags.map jT) 0],zp rfl (zF rfl),(k1.set k2 rfl).app (zp rfl (zF rfl)),k2,(c.set_box k3 (by decide) _).app _,_,_,_,zf (zq k3),.inr ⟨_,0,?_,rfl,?_⟩,.inr ⟨_,0,?_,rfl,?_⟩,?_⟩
   ·omega
   ·rw[zN (by simp)];rfl
   ·omega
   ·rw[zN (by simp)];rfl
   ·rw[f];rfl
 | some q=>
   obtain⟨e,os⟩:=q
   refine⟨.ptr (h.length+3) 0,.tl (h.length+0) 0,.tl (h.length+1) 0,[.row 146 5 (b.segs.map vb) 0,.row 105 2 (b.flags.map jT) 0,.row 75 11 (os.map evC) 0,.box 236 (q0a e (.tl (h.length+2) 0))],zp rfl (zp rfl (zp rfl (zF rfl))),(k1.set k2 rfl).app (zp rfl (zp rfl (zp rfl (zF rfl)))),k2,(c.set_box k3 (by decide) _).app _,_,_,_,zf (zq k3),.inr ⟨_,0,?_,rfl,?_⟩,.inr ⟨_,0,?_,rfl,?_⟩,?_⟩
   ·omega
   ·rw[zN (by simp)];rfl
   ·omega
   ·rw[zN (by simp)];rfl
   ·rw[f]
    refine⟨h.length+3,.tl (h.length+2) 0,?_,rfl,?_,.inr ⟨h.length+2,0,?_,rfl,?_⟩⟩
    ·omega
    ·rw[zN (by simp)];rfl
    ·omega
    ·rw[zN (by simp)];rfl
def Ju(k:Int):Int:=if k=3 then 1 else if k=4 then 2 else if k=5 then 3 else 0
def toP(first last to_:Int):Int:=max first (min to_ last)
def w9(t:TellS)(a to_:Int)(e:Ev):TellS:=if a<to_ then⟨t.open_,t.segs++[⟨a,to_,Ju e.kind,e.id,e.code⟩],t.flags⟩ else t
theorem TellIn.keep{F:List (Nat × List AV)}{h0 h:List Ob}{i:Nat}{s:Setup}{a:SA}{t:TellS}(k:TellIn F h0 h i s a t)(e:Ev):TellIn ((h.length,evC e)::F) h0 (h++[.box 75 (evC e)]) i s a t:=by
 have q:=k.app (M:=[.box 75 (evC e)]) (zF rfl)
 refine⟨q.pre,q.le,λz b=>?_,q.at_⟩
 rcases zH.1 b with rfl|b
 ·rw[zM rfl];rfl
 ·exact q.kept z b
theorem TellIn.drop{z:Nat × List AV}{F:List (Nat × List AV)}{h0 h:List Ob}{i:Nat}{s:Setup}{a:SA}{t:TellS}(k:TellIn (z::F) h0 h i s a t):TellIn F h0 h i s a t:=⟨k.pre,k.le,λy b=>k.kept y (List.mem_cons_of_mem _ b),k.at_⟩
theorem TellIn.gone{F:List (Nat × List AV)}{h0 h:List Ob}{i id e st:Nat}{xs:List (List AV)}{s:Setup}{a:SA}{t:TellS}(k:TellIn F h0 h i s a t)(hi:h[id]? =some (.row 75 e xs st))(c:h0.length<=id)(d:t.open_=none):TellIn F h0 (h.set id .gone) i s a t:=by
 obtain⟨k1,k2,f,p,x,y,k3,k4,k5,k6⟩:=k
 have b:id≠i:=λq=>by rw[q,k3] at hi;cases hi
 rw[d] at k6
 refine⟨k1.set c rfl,k2,f.set_row hi _,p,x,y,by rw[zc b];exact k3,k4.set_row hi (by decide) _,k5.set_row hi (by decide) _,?_⟩
 rw[d]
 exact k6
structure PartIn (F:List (Nat × List AV)) (h0 h:List Ob) (i nf nl nb nt nq:Nat) (s:Setup) (a:SA) (ow:AV) (ows:List (List AV)) (first last begin_:Int) (by_:Ev) (t:TellS):Prop where
 n1:nf≠nb
 n2:nl≠nb
 n3:h0.length<=nb
 n4:h0.length<=nq
 n5:∀z∈F,z.1≠nq
 b1:h[nf]? =some (.box 3 [i64 first])
 b2:h[nl]? =some (.box 3 [i64 last])
 b3:h[nb]? =some (.box 3 [i64 begin_])
 b4:h[nt]? =some (.box 135 [.ptr i 0])
 b5:h[nq]? =some (.box 75 (evC by_))
 t:TellIn F h0 h i s a t
 b6:OwnS h0 h 75 11 ow ows
theorem TellIn.ex{F:List (Nat × List AV)}{h0 h:List Ob}{i:Nat}{s:Setup}{a:SA}{t:TellS}(k:TellIn F h0 h i s a t)(b:TellS):∃r h',(r=AV.tup []/\TellIn F h0 h' i s a b)/\ResK h h':=by
 obtain⟨c,x',y',M,_,q⟩:=k.any b
 exact⟨_,_,⟨rfl,q⟩,k.pre.resK q.pre⟩
theorem TellIn.set_box{F:List (Nat × List AV)}{h0 h:List Ob}{i k ty:Nat}{s:Setup}{a:SA}{t:TellS}{cs:List AV}{o:Ob}(q:TellIn F h0 h i s a t)(b:h[k]? =some (.box ty cs))(f:ty≠138)(e:ty≠236)(d:h0.length<=k)(j:o.isRes=false)(g:Kept F (h.set k o)):TellIn F h0 (h.set k o) i s a t:=by
 obtain⟨k1,k2,l,p,x,y,k3,k4,k5,k6⟩:=q
 have c:k≠i:=λq=>by rw[q,k3] at b;injection b with b;injection b with b;exact f b.symm
 exact⟨k1.set d j,k2,g,p,x,y,by rw[zc c];exact k3,k4.set_box b o,k5.set_box b o,k6.set_box b e o⟩
theorem kL{h:List Ob}{i j t u:Nat}{cs ds:List AV}(hi:h[i]? =some (.box t cs))(b:h[j]? =some (.box u ds))(a:t≠u):i≠j:=λq=>by
 rw[q,b] at hi;injection hi with hi;injection hi with hi;exact a hi.symm
theorem PartIn.next{F:List (Nat × List AV)}{h0 h:List Ob}{i m nl g nt f:Nat}{s:Setup}{a:SA}{n:AV}{d:List (List AV)}{first last b:Int}{e:Ev}{t:TellS}(k:PartIn F h0 h i m nl g nt f s a n d first last b e t)(j:Int)(o:Ev):
  PartIn F h0 ((h.set g (.box 3 [i64 j])).set f (.box 75 (evC o))) i m nl g nt f s a n d first last j o t:=by
 have r:=kL k.b5 k.b1 (by decide)
 have u:=kL k.b5 k.b2 (by decide)
 have l:=kL k.b5 k.b3 (by decide)
 have p:=kL k.b5 k.b4 (by decide)
 have q:=kL k.b3 k.b4 (by decide)
 have c:(h.set g (.box 3 [i64 j]))[f]? =some (.box 75 (evC e)):=by rw[zc (Ne.symm l)];exact k.b5
 refine⟨k.n1,k.n2,k.n3,k.n4,k.n5,?_,?_,?_,?_,zq c,(k.t.set_box k.b3 (by decide) (by decide) k.n3 rfl (k.t.kept.set_box k.b3 (by decide) _)).set_box c (by decide) (by decide) k.n4 rfl ((k.t.kept.set_box k.b3 (by decide) _).set_ne k.n5 _),(k.b6.set_box k.b3 _).set_box c _⟩
 ·rw[zc r,zc (Ne.symm k.n1)];exact k.b1
 ·rw[zc u,zc (Ne.symm k.n2)];exact k.b2
 ·rw[zc l];exact zq k.b3
 ·rw[zc p,zc q];exact k.b4
theorem PartIn.tell{F:List (Nat × List AV)}{h0 h:List Ob}{i f nl m nt l:Nat}{s:Setup}{a:SA}{r:AV}{c:List (List AV)}{first last b:Int}{d:Ev}{t n:TellS}{cs:List AV}{M:List Ob}(k:PartIn F h0 h i f nl m nt l s a r c first last b d t)(q:TellIn F h0 (h.set i (.box 138 cs)++M) i s a n):
  PartIn F h0 (h.set i (.box 138 cs)++M) i f nl m nt l s a r c first last b d n:=by
 obtain⟨p,x,y,k3,_⟩:=k.t.at_
 have z:=kL k3 k.b1 (by decide)
 have A:=kL k3 k.b2 (by decide)
 have u:=kL k3 k.b3 (by decide)
 have v:=kL k3 k.b4 (by decide)
 have w:=kL k3 k.b5 (by decide)
 have g:∀ {j:Nat} {o:Ob},i≠j->h[j]? =some o->(h.set i (.box 138 cs)++M)[j]? =some o:=λe B=>zf (by rw[zc e];exact B)
 exact⟨k.n1,k.n2,k.n3,k.n4,k.n5,g z k.b1,g A k.b2,g u k.b3,g v k.b4,g w k.b5,q,(k.b6.set_box k3 _).app _⟩
theorem PartIn.tell2{F:List (Nat × List AV)}{h0 h:List Ob}{i n nl u nt o id ty e st:Nat}{xs:List (List AV)}{r:Ob}{s:Setup}{a:SA}{w:AV}{c:List (List AV)}{first last b:Int}{f:Ev}{t v:TellS}{cs:List AV}{M:List Ob}(k:PartIn F h0 h i n nl u nt o s a w c first last b f t)(d:h[id]? =some (.row ty e xs st))(A:75≠ty)(q:TellIn F h0 ((h.set id r).set i (.box 138 cs)++M) i s a v):
  PartIn F h0 ((h.set id r).set i (.box 138 cs)++M) i n nl u nt o s a w c first last b f v:=by
 obtain⟨p,x,y,k3,_⟩:=k.t.at_
 have D:=kL k3 k.b1 (by decide)
 have E:=kL k3 k.b2 (by decide)
 have z:=kL k3 k.b3 (by decide)
 have B:=kL k3 k.b4 (by decide)
 have C:=kL k3 k.b5 (by decide)
 have g:∀ {j t:Nat} {ds:List AV},i≠j->h[j]? =some (.box t ds)->((h.set id r).set i (.box 138 cs)++M)[j]? =some (.box t ds):=λm l=>zf (by
  have:∀ {j t:Nat} {ds:List AV},h[j]? =some (.box t ds)->id≠j:=λl q=>by rw[q,l] at d;cases d
  rw[zc m,zc (this l)];exact l)
 exact⟨k.n1,k.n2,k.n3,k.n4,k.n5,g D k.b1,g E k.b2,g z k.b3,g B k.b4,g C k.b5,q,((k.b6.set_row d A _).set_box (show(h.set id r)[i]? =some (.box 138 (wm s a p x y)) by rw[zc (λq=>by rw[q,k3] at d;cases d)];exact k3) _).app _⟩
theorem PartIn.pre{F:List (Nat × List AV)}{h0 h:List Ob}{i e nl g nt f:Nat}{s:Setup}{a:SA}{j:AV}{c:List (List AV)}{first last b:Int}{d:Ev}{t:TellS}(k:PartIn F h0 h i e nl g nt f s a j c first last b d t):Pre h0 h:=k.t.pre
theorem PartIn.app{F:List (Nat × List AV)}{h0 h M:List Ob}{i e nl g nt f:Nat}{s:Setup}{a:SA}{j:AV}{c:List (List AV)}{first last b:Int}{d:Ev}{t:TellS}(k:PartIn F h0 h i e nl g nt f s a j c first last b d t)(l:NoRes M):PartIn F h0 (h++M) i e nl g nt f s a j c first last b d t:=
 ⟨k.n1,k.n2,k.n3,k.n4,k.n5,zf k.b1,zf k.b2,zf k.b3,zf k.b4,zf k.b5,k.t.app l,k.b6.app M⟩
theorem PartIn.any{F:List (Nat × List AV)}{h0 h:List Ob}{i f nl j nt g:Nat}{s:Setup}{a:SA}{m:AV}{c:List (List AV)}{first last b:Int}{d:Ev}{t:TellS}(k:PartIn F h0 h i f nl j nt g s a m c first last b d t)(e:Int)(n:Ev)(l:TellS):
  ∃r h',(r=AV.tup []/\PartIn F h0 h' i f nl j nt g s a m c first last e n l)/\ResK h h':=by
 have k2:=k.next e n
 obtain⟨o,x',y',M,_,q⟩:=k2.t.any l
 have k3:=k2.tell q
 exact⟨_,_,⟨rfl,k3⟩,k.pre.resK k3.pre⟩
def yc(first last:Int)(z:Int × Ev × TellS)(x:Ev):Int × Ev × TellS:=(toP first last x.at_,x,w9 z.2.2 z.1 (toP first last x.at_) z.2.1)
theorem KF{t:TellS}{b to_:Int}{e:Ev}:(w9 t b to_ e).flags=t.flags:=by unfold w9;split<;>rfl
theorem YM{t:TellS}{b to_:Int}{e:Ev}:(w9 t b to_ e).segs.length<=t.segs.length+1:=by unfold w9;split<;>simp
theorem Kb{first last:Int}(os:List Ev):∀ {z:Int × Ev × TellS},(os.foldl (yc first last) z).2.2.segs.length<=z.2.2.segs.length+os.length:=by
 induction os with
 | nil=>intro z;simp
 | cons x os c=>
   intro z
   rw[List.foldl_cons]
   have d:=c (z:=yc first last z x)
   have f:=YM (t:=z.2.2) (b:=z.1) (to_:=toP first last x.at_) (e:=z.2.1)
   have a:(yc first last z x).2.2=w9 z.2.2 z.1 (toP first last x.at_) z.2.1:=rfl
   rw[a] at d
   rw[List.length_cons]
   omega
def vc(first last:Int)(t:TellS)(e:Ev)(os:List Ev):Int × Ev × TellS:=os.foldl (yc first last) (first,e,t)
def vP(first last:Int)(t:TellS)(e:Ev)(os:List Ev):TellS:=w9 (vc first last t e os).2.2 (vc first last t e os).1 (toP first last last) (vc first last t e os).2.1
theorem xRa{first last:Int}(os:List Ev):∀ {z:Int × Ev × TellS},(os.foldl (yc first last) z).2.2.flags=z.2.2.flags:=by
 induction os with
 | nil=>intro z;rfl
 | cons x os a=>
   intro z
   rw[List.foldl_cons,a]
   exact KF
theorem q1a{first last:Int}{t:TellS}{e:Ev}{os:List Ev}:(vc first last t e os).2.2.flags=t.flags:=xRa os
