/-
  Joined.
-/
import Derived.Test.YtigdlmpjijhpaaaGreatK16
set_option linter.unusedSimpArgs false
set_option linter.unusedVariables false
namespace Go.Proofs.YtigdlmpjijhpaaaGreat.Ax
open Go Go.Proofs
set_option maxRecDepth 100000
theorem QOa {k:Nat} (h:k<1099511627776):wr (2*(k:Int))=((2*k:Nat):Int):=by rw[zF (by unfold Fit;omega)];omega
theorem QPa {k:Nat} (h:k<1099511627776):wr ((k:Int)*2)=((2*k:Nat):Int):=by rw[zF (by unfold Fit;omega)];omega
theorem dle {a b:Nat} (e:decide ((a:Int)<=(b:Int))=true):a<=b:=by simpa using e
theorem QQa {a b:Nat} (e:decide ((a:Int)<=(b:Int))=false):b<a:=by simpa using e
theorem Zk {l:List Ev} {n:Nat} (h:n<=l.length):∃a b,l=a++b/\a.length=n:=⟨l.take n,l.drop n,(List.take_append_drop _ _).symm,by simp;omega⟩
set_option maxHeartbeats 1000000 in
theorem Xba (h:List Ob) (id st n:Nat) (l:List Ev) (E:h[id]? =some (zY l st)) (F:n=l.length) (Q:l.length<1099511627776):
  ACalls Tryz.prog 179 [.tl id st,i64 n,.fn (.func 111) [] []] h λr h'=>r= .tup []/\h'=h.set id (zY (zx l) st):=by
 have t:∀o,(h.set id o)[id]? =some o:=λo=>zh E
 refine zf Tryz.f179 [] 63 rfl rfl rfl rfl rfl rfl (by decide) (⟨_,_,⟨rfl,rfl⟩,zK E rfl⟩) λB=>?_
 simp only[go_sem]
 refine zk (by decide) (λk T h'=>∃D R,D++blkE 20 R=blkE 20 l/\D.length+R.length=n/\h'=h.set id (zY (D++R) st)/\T 0= .tl id st/\T 1=i64 n/\T 2= .fn (.func 111) [] []/\T 6=i64 (20:Nat)/\T 7=i64 D.length/\T 8=i64 (D.length+20:Nat)/\k=R.length) l.length
  ⟨[],l,rfl,by simp[F],(zZ E).symm,by simp only[go_sem],by simp only[go_sem],by simp only[go_sem],by (simp only[go_sem]<;>rfl),by (simp only[go_sem]<;>rfl),by (simp only[go_sem]<;>rfl),rfl⟩ ?_
 rintro k T h' ⟨D,R,f,p,rfl,t0,t1,t2,t6,i,t8,rfl⟩
 simp only[go_sem,t1,t8]
 refine ways (λe=>?_) (λe=>?_)
 ·have u:=dle e
  obtain ⟨c,d,rfl,g⟩:=Zk (l:=R) (n:=20) (by omega)
  simp only[List.length_append] at p
  have s:wr (((D.length+20:Nat):Int)+20)=((D.length+20+20:Nat):Int):=wx (b:=20) (by omega)
  rw[yP g (by omega)] at f
  have S:=qF c
  simp only[go_sem,t0,t2,t6,i,t8]
  refine zd (QNa _ id st _ _ D c d (t _) rfl (by omega) (by simp;omega)) ?_
  rintro _ y ⟨rfl,j⟩
  subst j
  simp only[go_sem,t8,t6,s,List.set_set]
  exact ⟨d.length,by omega,D++zx c,d,by rw[<-f];simp,by simp;omega,by simp,t0,t1,t2,q8 (by simp;omega),q8 (by simp;omega),rfl⟩
 ·have q:=QQa e
  have P:R.length<20:=by omega
  rw[ws (by omega)] at f
  simp only[go_sem,t0,t1,t2,i]
  refine zd (QNa _ id st _ _ D R [] (by rw[t];simp) rfl (by omega) (by simp;omega)) ?_
  rintro _ y ⟨rfl,j⟩
  subst j
  rw[List.append_nil,f]
  simp only[go_sem,List.set_set]
  refine zk (by decide) (λk T h'=>∃a:Nat,0<a/\a<2199023255552/\h'=h.set id (zY (blkE a l) st)/\T 0= .tl id st/\T 1=i64 n/\T 2= .fn (.func 111) [] []/\T 6=i64 a/\k=n - a) (n - 20)
   ⟨20,by omega,by omega,rfl,by simp only[go_sem,t0],by simp only[go_sem,t1],by simp only[go_sem,t2],by simp only[go_sem,t6],rfl⟩ ?_
  clear t0 t1 t2 t6 i t8 f p P q e
  rintro k T h' ⟨a,M,J,rfl,t0,t1,t2,t6,rfl⟩
  simp only[go_sem,t1,t6]
  refine ways (λe=>?_) (λe=>?_)
  ·have K:=dlt e
   have s:=QOa (k:=a) (by omega)
   have G:=QPa (k:=a) (by omega)
   simp only[go_sem,t6,s]
   refine zk (by decide) (λk T h'=>∃D R,D++blkE (2*a) R=blkE (2*a) l/\D.length+R.length=n/\h'=h.set id (zY (D++blkE a R) st)/\T 0= .tl id st/\T 1=i64 n/\T 2= .fn (.func 111) [] []/\T 6=i64 a/\T 7=i64 D.length/\T 8=i64 (D.length+2*a:Nat)/\k=R.length) l.length
    ⟨[],l,rfl,by simp[F],rfl,by simp only[go_sem,t0],by simp only[go_sem,t1],by simp only[go_sem,t2],by simp only[go_sem,t6],by (simp only[go_sem]<;>rfl),by (simp only[go_sem]<;>exact q8 (by simp)),rfl⟩ ?_
   clear t0 t1 t2 t6
   rintro k T h' ⟨D,R,f,p,rfl,t0,t1,t2,t6,i,t8,rfl⟩
   simp only[go_sem,t1,t8]
   refine ways (λe=>?_) (λe=>?_)
   ·have u:=dle e
    obtain ⟨c,N,rfl,g⟩:=Zk (l:=R) (n:=a) (by omega)
    obtain ⟨d,m,rfl,z⟩:=Zk (l:=N) (n:=a) (by simp at p;omega)
    simp only[List.length_append] at p
    have w:wr (((D.length:Nat):Int)+(a:Int))=((D.length+a:Nat):Int):=wx (by omega)
    have I:wr (((D.length+2*a:Nat):Int)+((2*a:Nat):Int))=((D.length+2*a+2*a:Nat):Int):=wx (by omega)
    have O:blkE (2*a) (c++(d++m))=zx (c++d)++blkE (2*a) m:=by
     rw[<-List.append_assoc,yP (by simp;omega) (by omega)]
    rw[O] at f
    rw[yP g (by omega),yP z (by omega)]
    have A:=qF c
    have C:=qF d
    have x:=qF (c++d)
    simp only[List.length_append] at x
    have L:=kLa a m
    simp only[go_sem,t0,t2,t6,i,t8,w]
    refine zd (wza _ _ id st _ _ _ D (zx c) (zx d) (blkE a m) (t _) rfl (by omega) (by omega) (by omega) (by omega) (xn _) (xn _) (by omega) (Nat.le_refl _)) ?_
    rintro _ y ⟨rfl,j⟩
    subst j
    rw[wZ]
    simp only[go_sem,t8,t6,s,I,List.set_set]
    exact ⟨m.length,by omega,D++zx (c++d),m,by rw[<-f];simp,by simp;omega,by simp,t0,t1,t2,q8 (by simp;omega),q8 (by simp;omega),rfl⟩
   ·have q:=QQa e
    have w:wr (((D.length:Nat):Int)+(a:Int))=((D.length+a:Nat):Int):=wx (by omega)
    simp only[go_sem,t1,t6,i,w]
    refine ways (λe=>?_) (λe=>?_)
    ·have H:=dlt e
     obtain ⟨c,d,rfl,g⟩:=Zk (l:=R) (n:=a) (by omega)
     simp only[List.length_append] at p
     rw[yP g (by omega),ws (by omega)]
     rw[ws (by simp;omega), <-wZ] at f
     have A:=qF c
     have C:=qF d
     simp only[go_sem,t0,t1,t2,t6,i]
     refine zd (wza _ _ id st _ _ _ D (zx c) (zx d) [] (by rw[t];simp) rfl (by omega) (by omega) (by omega) (by omega) (xn _) (xn _) (by simp;omega) (Nat.le_refl _)) ?_
     rintro _ y ⟨rfl,j⟩
     subst j
     rw[List.append_nil,f]
     simp only[go_sem,t6,G,List.set_set]
     exact ⟨n - 2*a,by omega,2*a,by omega,by omega,rfl,t0,t1,t2,rfl,rfl⟩
    ·have v:=jk e
     rw[ws (by omega)]
     rw[ws (by omega)] at f
     rw[f]
     simp only[go_sem,t6,G]
     exact ⟨n - 2*a,by omega,2*a,by omega,by omega,rfl,t0,t1,t2,rfl,rfl⟩
  ·have v:=jk e
   rw[ws (by omega)]
   simp only[go_sem]
   exact ⟨.tup [],by simp only[go_sem],.inl ⟨rfl,rfl⟩⟩
theorem WZ {h:List Ob} {x:AV} {r:List AV} {rs:List (List AV)} (b:zo h x=some (r::rs)):(∃e xs,x= .sl e xs)∨(∃i s,x= .tl i s)∨(∃a e i n,x= .vw a e i n):=by
 cases x with
 | sl e xs=>exact .inl ⟨_,_,rfl⟩
 | tl i s=>exact .inr (.inl ⟨_,_,rfl⟩)
 | vw a e i n=>exact .inr (.inr ⟨_,_,_,_,rfl⟩)
 | v x=>
   unfold zo at b
   split at b<;>rename_i heq<;>first
    | (cases heq;done)
    | (injection heq with heq;subst heq;injection b with b;cases b)
    | cases b
 | em=>injection b with b;cases b
 | _=>cases b
theorem Zoa (l:List Ev):((l.map evC).all λr=>r.length==11 && r.all AV.one)=true:=by
 rw[List.all_eq_true]
 intro r a
 obtain ⟨e,_,rfl⟩:=List.mem_map.1 a
 rfl
theorem QRa (x f:AV):jf Tryz.prog 237 [x,i64 0,i64 0,f] (.tup []):=λh=>by
 refine zf Tryz.f237 [] 53 rfl rfl rfl rfl rfl rfl (by decide) (⟨_,_,⟨rfl,rfl⟩,.refl⟩) λB=>?_
 simp only[go_sem]
 refine ky 1 (qT (by decide) ?_)
 simp only[go_sem]
 (first | refine zc ?_ | refine ze ?_ (by rfl))<;>(simp only[go_sem]<;>try rfl)
theorem QSa (x f:AV):jf Tryz.prog 179 [x,i64 0,f] (.tup []):=λh=>by
 refine zf Tryz.f179 [] 63 rfl rfl rfl rfl rfl rfl (by decide) (⟨_,_,⟨rfl,rfl⟩,.refl⟩) λB=>?_
 simp only[go_sem]
 refine ky 1 (qT (by decide) ?_)
 simp only[go_sem]
 refine zd (QRa _ _ _) ?_
 rintro _ b ⟨rfl,a⟩
 subst a
 simp only[go_sem]
 refine ky 1 (qT (by decide) ?_)
 simp only[go_sem]
 (first | refine zc ?_ | refine ze ?_ (by rfl))<;>(simp only[go_sem]<;>try rfl)
theorem c88 (h:List Ob) (id st:Nat) (l:List Ev) (a:h[id]? =some (zY l st)) (c:l.length<1099511627776):
  ACalls Tryz.prog 110 [.tl id st,.fn (.func 111) [] []] h λr h'=>r= .tup []/\h'=h.set id (zY (zx l) st):=by
 refine zf Tryz.f110 [] 9 rfl rfl rfl rfl rfl rfl (by decide) (⟨_,_,⟨rfl,rfl⟩,zK a rfl⟩) λB=>?_
 simp only[go_sem,a,List.length_map]
 refine zd (Xba _ id st _ l a rfl c) ?_
 rintro _ d ⟨rfl,b⟩
 subst b
 simp only[go_sem]
 exact ⟨.tup [],by simp only[go_sem],.inl ⟨rfl,rfl⟩⟩
theorem Xca (f:AV):jf Tryz.prog 110 [.v (.slice none 0 0),f] (.tup []):=λh=>by
 refine zf Tryz.f110 [] 9 rfl rfl rfl rfl rfl rfl (by decide) (⟨_,_,⟨rfl,rfl⟩,.refl⟩) λB=>?_
 simp only[go_sem]
 refine zd (QSa _ _ _) ?_
 rintro _ b ⟨rfl,a⟩
 subst a
 simp only[go_sem]
 (first | refine zc ?_ | refine ze ?_ (by rfl))<;>(simp only[go_sem]<;>try rfl)
theorem c87 (h:List Ob) (x:AV) (l:List Ev) (d:SlOf h x 11 (l.map evC)) (t:l.length<1099511627776):
  ACalls Tryz.prog 109 [x] h λr h'=>(l=[]/\h'=h/\r= .v (.slice none 0 0))∨(h'=h++[zY l 1]/\r= .tl h.length 1):=by
 refine vu (N:=8) (rs:=[.tmp 2]) (fn:=Tryz.f109) rfl rfl rfl rfl (Nat.le_of_ble_eq_true rfl) rfl (⟨_,_,.inr ⟨rfl,rfl⟩,zW⟩) λB=>?_
 cases l with
 | nil=>
   refine qza 0 rfl d.rows (λm=>?_) ?_
   ·refine qv _ (by decide) ?_;simp only[go_sem]
    exact ⟨.v (.slice none 0 0),by simp only[go_sem],.inl (.inl ⟨rfl,rfl⟩)⟩
   ·refine qv _ (by decide) ?_;simp only[go_sem]
    exact ⟨.tl h.length 1,by simp only[go_sem],.inl (.inr ⟨rfl,rfl⟩)⟩
 | cons y l=>
   have q:=d.at (i:=0) (by simp)
   have f:=d.rows
   have o:yH x=false:=by
    rcases WZ f with ⟨e,xs,rfl⟩ | ⟨i,s,rfl⟩ | ⟨a,e,i,n,rfl⟩<;>rfl
   unfold yH at o
   have b:∀L,zo (h++L) x=some ((y::l).map evC):=λL=>(d.app L).rows
   have k:=Zoa (y::l)
   have g:((y::l).map evC).length*89<=140737488355328:=by rw[List.length_map];omega
   obtain ⟨L,j⟩:∃L,L=(y::l).map evC:=⟨_,rfl⟩
   rw[<-j] at f b k g
   obtain ⟨r,p,c⟩:∃r p,L=r::p:=⟨_,_,j⟩
   rw[c] at f b k g
   rw[List.length_cons] at g
   refine qv _ (by decide) ?_;simp only[go_sem,f,q,o,b,k,g,Bool.or_true,decide_true]
   refine ⟨.tl h.length 1,by simp only[go_sem],.inl (.inr ⟨?_,rfl⟩)⟩
   rw[<-c,j]
theorem c57 (h:List Ob) (x:AV) (l:List Ev) (c:SlOf h x 11 (l.map evC)) (b:l.length<1099511627776):
  ACalls Tryz.prog 53 [x] h λr h'=>(l=[]/\h'=h/\r= .v (.slice none 0 0))∨(h'=h++[zY (zx l) 1]/\r= .tl h.length 1):=by
 refine zf Tryz.f53 [.tmp 2] 9 rfl rfl rfl rfl rfl rfl (by decide) (⟨_,_,.inr ⟨rfl,rfl⟩,zW⟩) λB=>?_
 simp only[go_sem]
 refine zd (c87 h x l c b) ?_
 rintro _ f (⟨rfl,rfl,rfl⟩ | ⟨rfl,rfl⟩)
 ·simp only[go_sem]
  refine zd (Xca _ _) ?_
  rintro _ d ⟨rfl,a⟩
  subst a
  simp only[go_sem]
  exact ⟨.v (.slice none 0 0),by simp only[go_sem],.inl (.inl ⟨rfl,rfl⟩)⟩
 ·have e:(h++[zY l 1])[h.length]? =some (zY l 1):=by simp
  simp only[go_sem]
  refine zd (c88 _ _ _ l e b) ?_
  rintro _ d ⟨rfl,a⟩
  subst a
  simp only[go_sem]
  refine ⟨.tl h.length 1,by simp only[go_sem],.inl (.inr ⟨?_,rfl⟩)⟩
  simp
def NoRes (L:List Ob):Prop:=∀o∈L,o.isRes=false
def Pre (h0 h:List Ob):Prop:=∃L,h=h0++L/\NoRes L
theorem Pre.refl {h:List Ob}:Pre h h:=⟨[],by simp,λ_ h=>by cases h⟩
theorem Pre.app {h0 h M:List Ob} (k:Pre h0 h) (b:NoRes M):Pre h0 (h++M):=by
 obtain ⟨L,rfl,c⟩:=k
 refine ⟨L++M,by simp,λo a=>?_⟩
 rcases List.mem_append.1 a with a | a
 ·exact c o a
 ·exact b o a
theorem Pre.set {h0 h:List Ob} {i:Nat} {o:Ob} (k:Pre h0 h) (b:h0.length<=i) (d:o.isRes=false):Pre h0 (h.set i o):=by
 obtain ⟨L,rfl,c⟩:=k
 refine ⟨L.set (i - h0.length) o,by rw[List.set_append_right _ _ b],λx a=>?_⟩
 rcases List.mem_or_eq_of_mem_set a with a | a
 ·exact c x a
 ·rw[a];exact d
theorem Pre.resK {h0 h h':List Ob} (k:Pre h0 h) (k':Pre h0 h'):ResK h h':=by
 obtain ⟨L,rfl,c⟩:=k
 obtain ⟨d,rfl,_⟩:=k'
 intro i a
 rcases Nat.lt_or_ge i h0.length with b | b
 ·rw[List.getElem?_append_left b] at a⊢
  exact a
 ·rw[List.getElem?_append_right b] at a
  have:=c _ (List.mem_of_getElem? a)
  cases this
theorem Pre.sin {h0 h:List Ob} (k:Pre h0 h) {s:Setup} {a:SA} (q:SIn h0 s a):SIn h s a:=by
 obtain ⟨L,rfl,_⟩:=k
 exact q.app L
theorem Pre.sl {h0 h:List Ob} (k:Pre h0 h) {x:AV} {e:Nat} {rows:List (List AV)} (q:SlOf h0 x e rows):SlOf h x e rows:=by
 obtain ⟨L,rfl,_⟩:=k
 exact q.app L
theorem Pre.len {h0 h:List Ob} (k:Pre h0 h):h0.length<=h.length:=by
 obtain ⟨L,rfl,_⟩:=k
 simp
theorem Pre.trans {h0 h h':List Ob} (k:Pre h0 h) (k':Pre h h'):Pre h0 h':=by
 obtain ⟨L,rfl,a⟩:=k'
 exact k.app a
theorem zj {o:Ob} (h:o.isRes=false):NoRes [o]:=λx a=>by rw[List.mem_singleton.1 a];exact h
theorem jN:NoRes []:=λ_ h=>by cases h
theorem zg {o:Ob} {L:List Ob} (h:o.isRes=false) (k:NoRes L):NoRes (o::L):=λx a=>by
 rcases List.mem_cons.1 a with rfl | a
 ·exact h
 ·exact k x a
def OwnS (h0 h:List Ob) (ty e:Nat) (x:AV) (rows:List (List AV)):Prop:=(x= .v (.slice none 0 0)/\rows=[])∨∃id st,h0.length<=id/\x= .tl id st/\h[id]? =some (.row ty e rows st)
theorem OwnS.app {h0 h:List Ob} {ty e:Nat} {x:AV} {rows:List (List AV)} (k:OwnS h0 h ty e x rows) (M:List Ob):OwnS h0 (h++M) ty e x rows:=by
 rcases k with k | ⟨id,st,k1,k2,k3⟩
 ·exact .inl k
 ·exact .inr ⟨id,st,k1,k2,zb k3⟩
theorem OwnS.set_box {h0 h:List Ob} {ty e:Nat} {x:AV} {rows:List (List AV)} (k:OwnS h0 h ty e x rows) {i t:Nat} {b:List AV} (a:h[i]? =some (.box t b)) (o:Ob):OwnS h0 (h.set i o) ty e x rows:=by
 rcases k with k | ⟨id,st,k1,k2,k3⟩
 ·exact .inl k
 ·refine .inr ⟨id,st,k1,k2,?_⟩
  have:i≠id:=λq=>by rw[q,k3] at a;cases a
  rw[List.getElem?_set_ne this]
  exact k3
theorem OwnS.set_row {h0 h:List Ob} {ty e:Nat} {x:AV} {rows:List (List AV)} (k:OwnS h0 h ty e x rows) {i t c s:Nat} {xs:List (List AV)} (a:h[i]? =some (.row t c xs s)) (b:ty≠t) (o:Ob):OwnS h0 (h.set i o) ty e x rows:=by
 rcases k with k | ⟨id,st,k1,k2,k3⟩
 ·exact .inl k
 ·refine .inr ⟨id,st,k1,k2,?_⟩
  have:i≠id:=λq=>by rw[q,k3] at a;injection a with a;injection a with h1;exact b h1
  rw[List.getElem?_set_ne this]
  exact k3
theorem OwnS.rows {h0 h:List Ob} {ty e:Nat} {x:AV} {rows:List (List AV)} (k:OwnS h0 h ty e x rows):SlOf h x e rows:=by
 rcases k with ⟨rfl,rfl⟩ | ⟨id,st,_,rfl,k3⟩
 ·exact ⟨rfl,λh=>absurd rfl h⟩
 ·refine ⟨?_,λ_=>?_⟩
  ·rw[zP,k3,xK,if_pos rfl]
  ·rw[qR,k3,vo]
structure Seg where
 from_:Int
 to_:Int
 kind:Int
 id:Int
 code:Int
abbrev xf (g:Seg):List AV:=[i64 g.from_,i64 g.to_,i64 g.kind,i64 g.id,i64 g.code]
structure Flg where
 id:Int
 kind:Int
abbrev xP (f:Flg):List AV:=[i64 f.id,i64 f.kind]
structure TellS where
 open_:Option (Ev × List Ev)
 segs:List Seg
 flags:List Flg
abbrev W0 (e:Ev) (o:AV):List AV:=evC e++[o]
abbrev xZ (s:Setup) (a:SA) (p x y:AV):List AV:=zr s a++[p,x,y]
def OpenIn (h0 h:List Ob) (p:AV):Option (Ev × List Ev)->Prop
 | none=>p= .v (.pointer none)
 | some (e,os)=>∃j o,h0.length<=j/\p= .ptr j 0/\h[j]? =some (.box 236 (W0 e o))/\OwnS h0 h 75 11 o (os.map evC)
theorem OpenIn.app {h0 h:List Ob} {p:AV}:∀ {t:Option (Ev × List Ev)},OpenIn h0 h p t->∀M,OpenIn h0 (h++M) p t
 | none,k,_=>k
 | some (e,os),⟨j,o,k1,k2,k3,k4⟩,M=>⟨j,o,k1,k2,zb k3,k4.app M⟩
theorem OpenIn.set_box {h0 h:List Ob} {p:AV}:∀ {t:Option (Ev × List Ev)},OpenIn h0 h p t->∀ {i ty:Nat} {b:List AV},h[i]? =some (.box ty b)->ty≠236->∀o,OpenIn h0 (h.set i o) p t
 | none,k,_,_,_,_,_,_=>k
 | some (e,os),⟨j,x,k1,k2,k3,k4⟩,i,ty,b,a,c,o=>⟨j,x,k1,k2,by
   have:i≠j:=λq=>by rw[q,k3] at a;injection a with a;injection a with h1;exact c h1.symm
   rw[List.getElem?_set_ne this];exact k3,k4.set_box a o⟩
theorem OpenIn.set_row {h0 h:List Ob} {p:AV}:∀ {t:Option (Ev × List Ev)},OpenIn h0 h p t->∀ {i ty e s:Nat} {xs:List (List AV)},h[i]? =some (.row ty e xs s)->ty≠75->∀o,OpenIn h0 (h.set i o) p t
 | none,k,_,_,_,_,_,_,_,_=>k
 | some (e,os),⟨j,x,k1,k2,k3,k4⟩,i,ty,c,s,xs,a,b,o=>⟨j,x,k1,k2,by
   have:i≠j:=λq=>by rw[q,k3] at a;cases a
   rw[List.getElem?_set_ne this];exact k3,k4.set_row a (Ne.symm b) o⟩
def Kept (F:List (Nat × List AV)) (h:List Ob):Prop:=∀z∈F,h[z.1]? =some (.box 75 z.2)
theorem Kept.app {F:List (Nat × List AV)} {h:List Ob} (k:Kept F h) (M:List Ob):Kept F (h++M):=λz a=>zb (k z a)
theorem Kept.set_box {F:List (Nat × List AV)} {h:List Ob} (k:Kept F h) {i ty:Nat} {e:List AV} (a:h[i]? =some (.box ty e)) (c:ty≠75) (o:Ob):Kept F (h.set i o):=λz d=>by
 have:=k z d
 have b:i≠z.1:=λq=>by rw[q,this] at a;injection a with a;injection a with a;exact c a.symm
 rw[List.getElem?_set_ne b]
 exact this
theorem Kept.set_row {F:List (Nat × List AV)} {h:List Ob} (k:Kept F h) {i ty e st:Nat} {xs:List (List AV)} (b:h[i]? =some (.row ty e xs st)) (o:Ob):Kept F (h.set i o):=λz c=>by
 have:=k z c
 have a:i≠z.1:=λq=>by rw[q,this] at b;cases b
 rw[List.getElem?_set_ne a]
 exact this
theorem Kept.set_ne {F:List (Nat × List AV)} {h:List Ob} (k:Kept F h) {i:Nat} (b:∀z∈F,z.1≠i) (o:Ob):Kept F (h.set i o):=λz a=>by
 rw[List.getElem?_set_ne (Ne.symm (b z a))]
 exact k z a
structure TellIn (F:List (Nat × List AV)) (h0 h:List Ob) (i:Nat) (s:Setup) (a:SA) (t:TellS):Prop where
 pre:Pre h0 h
 le:h0.length<=i
 kept:Kept F h
 at_:∃p x y,h[i]? =some (.box 138 (xZ s a p x y))/\OwnS h0 h 146 5 x (t.segs.map xf)/\OwnS h0 h 105 2 y (t.flags.map xP)/\OpenIn h0 h p t.open_
theorem TellIn.app {F:List (Nat × List AV)} {h0 h M:List Ob} {i:Nat} {s:Setup} {a:SA} {t:TellS} (k:TellIn F h0 h i s a t) (b:NoRes M):TellIn F h0 (h++M) i s a t:=by
 obtain ⟨k1,k2,c,p,x,y,k3,k4,k5,k6⟩:=k
 exact ⟨k1.app b,k2,c.app M,p,x,y,zb k3,k4.app M,k5.app M,k6.app M⟩
def xL (t:TellS) (e:Ev) (k:Int):TellS:=⟨t.open_,t.segs,t.flags++[⟨e.id,k⟩]⟩
theorem zl {α:Type} {l M:List α} {n k:Nat} (a:n=l.length):(l++M)[n+k]? =M[k]? :=by
 rw[List.getElem?_append_right (by omega),show n+k - l.length=k by omega]
theorem zm {α:Type} {l M:List α} {n:Nat} (a:n=l.length):(l++M)[n]? =M[0]? :=zl (k:=0) a
theorem TellIn.any {F:List (Nat × List AV)} {h0 h:List Ob} {i:Nat} {s:Setup} {a:SA} {t:TellS} (k:TellIn F h0 h i s a t) (b:TellS):∃g x' y' M,NoRes M/\TellIn F h0 (h.set i (.box 138 (xZ s a g x' y'))++M) i s a b:=by
 obtain ⟨k1,k2,c,p,x,y,k3,k4,k5,k6⟩:=k
 have d:=k1.len
 have j:i<h.length:=by
  rcases Nat.lt_or_ge i h.length with q | q
  ·exact q
  ·rw[List.getElem?_eq_none q] at k3;cases k3
 cases f:b.open_ with
 | none=>
   refine ⟨.v (.pointer none),.tl (h.length+0) 0,.tl (h.length+1) 0,[.row 146 5 (b.segs.map xf) 0,.row 105 2 (b.flags.map xP) 0],zg rfl (zj rfl),(k1.set k2 rfl).app (zg rfl (zj rfl)),k2,(c.set_box k3 (by decide) _).app _,_,_,_,zb (zh k3),.inr ⟨_,0,?_,rfl,?_⟩,.inr ⟨_,0,?_,rfl,?_⟩,?_⟩
   ·omega
   ·rw[zl (by simp)];rfl
   ·omega
   ·rw[zl (by simp)];rfl
   ·rw[f];rfl
 | some q=>
   obtain ⟨e,os⟩:=q
   refine ⟨.ptr (h.length+3) 0,.tl (h.length+0) 0,.tl (h.length+1) 0,[.row 146 5 (b.segs.map xf) 0,.row 105 2 (b.flags.map xP) 0,.row 75 11 (os.map evC) 0,.box 236 (W0 e (.tl (h.length+2) 0))],zg rfl (zg rfl (zg rfl (zj rfl))),(k1.set k2 rfl).app (zg rfl (zg rfl (zg rfl (zj rfl)))),k2,(c.set_box k3 (by decide) _).app _,_,_,_,zb (zh k3),.inr ⟨_,0,?_,rfl,?_⟩,.inr ⟨_,0,?_,rfl,?_⟩,?_⟩
   ·omega
   ·rw[zl (by simp)];rfl
   ·omega
   ·rw[zl (by simp)];rfl
   ·rw[f]
    refine ⟨h.length+3,.tl (h.length+2) 0,?_,rfl,?_,.inr ⟨h.length+2,0,?_,rfl,?_⟩⟩
    ·omega
    ·rw[zl (by simp)];rfl
    ·omega
    ·rw[zl (by simp)];rfl
def Zy (k:Int):Int:=if k=3 then 1 else if k=4 then 2 else if k=5 then 3 else 0
def toP (first last to_:Int):Int:=max first (min to_ last)
def vh (t:TellS) (a to_:Int) (e:Ev):TellS:=if a<to_ then ⟨t.open_,t.segs++[⟨a,to_,Zy e.kind,e.id,e.code⟩],t.flags⟩ else t
theorem TellIn.keep {F:List (Nat × List AV)} {h0 h:List Ob} {i:Nat} {s:Setup} {a:SA} {t:TellS} (k:TellIn F h0 h i s a t) (e:Ev):TellIn ((h.length,evC e)::F) h0 (h++[.box 75 (evC e)]) i s a t:=by
 have q:=k.app (M:=[.box 75 (evC e)]) (zj rfl)
 refine ⟨q.pre,q.le,λz b=>?_,q.at_⟩
 rcases List.mem_cons.1 b with rfl | b
 ·rw[zm rfl];rfl
 ·exact q.kept z b
theorem TellIn.drop {z:Nat × List AV} {F:List (Nat × List AV)} {h0 h:List Ob} {i:Nat} {s:Setup} {a:SA} {t:TellS} (k:TellIn (z::F) h0 h i s a t):TellIn F h0 h i s a t:=⟨k.pre,k.le,λy b=>k.kept y (List.mem_cons_of_mem _ b),k.at_⟩
theorem TellIn.gone {F:List (Nat × List AV)} {h0 h:List Ob} {i id e st:Nat} {xs:List (List AV)} {s:Setup} {a:SA} {t:TellS} (k:TellIn F h0 h i s a t) (b:h[id]? =some (.row 75 e xs st)) (c:h0.length<=id) (f:t.open_=none):TellIn F h0 (h.set id .gone) i s a t:=by
 obtain ⟨k1,k2,g,p,x,y,k3,k4,k5,k6⟩:=k
 have d:id≠i:=λq=>by rw[q,k3] at b;cases b
 rw[f] at k6
 refine ⟨k1.set c rfl,k2,g.set_row b _,p,x,y,by rw[List.getElem?_set_ne d];exact k3,k4.set_row b (by decide) _,k5.set_row b (by decide) _,?_⟩
 rw[f]
 exact k6
structure PartIn (F:List (Nat × List AV)) (h0 h:List Ob) (i nf nl nb nt nq:Nat) (s:Setup) (a:SA) (ow:AV) (ows:List (List AV)) (first last begin_:Int) (by_:Ev) (t:TellS):Prop where
 n1:nf≠nb
 n2:nl≠nb
 n3:h0.length<=nb
 n4:h0.length<=nq
 n5:∀z∈F,z.1≠nq
 b1:h[nf]? =some (.box 3 [i64 first])
 b2:h[nl]? =some (.box 3 [i64 last])
 b3:h[nb]? =some (.box 3 [i64 begin_])
 b4:h[nt]? =some (.box 135 [.ptr i 0])
 b5:h[nq]? =some (.box 75 (evC by_))
 t:TellIn F h0 h i s a t
 b6:OwnS h0 h 75 11 ow ows
theorem TellIn.ex {F:List (Nat × List AV)} {h0 h:List Ob} {i:Nat} {s:Setup} {a:SA} {t:TellS} (k:TellIn F h0 h i s a t) (b:TellS):∃r h',(r=AV.tup []/\TellIn F h0 h' i s a b)/\ResK h h':=by
 obtain ⟨c,x',y',M,_,q⟩:=k.any b
 exact ⟨_,_,⟨rfl,q⟩,k.pre.resK q.pre⟩
theorem TellIn.set_box {F:List (Nat × List AV)} {h0 h:List Ob} {i k ty:Nat} {s:Setup} {a:SA} {t:TellS} {e:List AV} {o:Ob} (q:TellIn F h0 h i s a t) (b:h[k]? =some (.box ty e)) (j:ty≠138) (f:ty≠236) (c:h0.length<=k) (l:o.isRes=false) (g:Kept F (h.set k o)):TellIn F h0 (h.set k o) i s a t:=by
 obtain ⟨k1,k2,m,p,x,y,k3,k4,k5,k6⟩:=q
 have d:k≠i:=λq=>by rw[q,k3] at b;injection b with b;injection b with b;exact j b.symm
 exact ⟨k1.set c l,k2,g,p,x,y,by rw[List.getElem?_set_ne d];exact k3,k4.set_box b o,k5.set_box b o,k6.set_box b f o⟩
theorem jW {h:List Ob} {i j t u:Nat} {d ds:List AV} (a:h[i]? =some (.box t d)) (c:h[j]? =some (.box u ds)) (b:t≠u):i≠j:=λq=>by
 rw[q,c] at a;injection a with a;injection a with a;exact b a.symm
theorem PartIn.next {F:List (Nat × List AV)} {h0 h:List Ob} {i l nl g nt f:Nat} {s:Setup} {a:SA} {m:AV} {e:List (List AV)} {first last b:Int} {d:Ev} {t:TellS} (k:PartIn F h0 h i l nl g nt f s a m e first last b d t) (j:Int) (o:Ev):
  PartIn F h0 ((h.set g (.box 3 [i64 j])).set f (.box 75 (evC o))) i l nl g nt f s a m e first last j o t:=by
 have r:=jW k.b5 k.b1 (by decide)
 have q:=jW k.b5 k.b2 (by decide)
 have n:=jW k.b5 k.b3 (by decide)
 have p:=jW k.b5 k.b4 (by decide)
 have u:=jW k.b3 k.b4 (by decide)
 have c:(h.set g (.box 3 [i64 j]))[f]? =some (.box 75 (evC d)):=by rw[List.getElem?_set_ne (Ne.symm n)];exact k.b5
 refine ⟨k.n1,k.n2,k.n3,k.n4,k.n5,?_,?_,?_,?_,zh c,(k.t.set_box k.b3 (by decide) (by decide) k.n3 rfl (k.t.kept.set_box k.b3 (by decide) _)).set_box c (by decide) (by decide) k.n4 rfl ((k.t.kept.set_box k.b3 (by decide) _).set_ne k.n5 _),(k.b6.set_box k.b3 _).set_box c _⟩
 ·rw[List.getElem?_set_ne r,List.getElem?_set_ne (Ne.symm k.n1)];exact k.b1
 ·rw[List.getElem?_set_ne q,List.getElem?_set_ne (Ne.symm k.n2)];exact k.b2
 ·rw[List.getElem?_set_ne n];exact zh k.b3
 ·rw[List.getElem?_set_ne p,List.getElem?_set_ne u];exact k.b4
theorem PartIn.tell {F:List (Nat × List AV)} {h0 h:List Ob} {i m nl u nt n:Nat} {s:Setup} {a:SA} {l:AV} {d:List (List AV)} {first last b:Int} {c:Ev} {t r:TellS} {e:List AV} {M:List Ob} (k:PartIn F h0 h i m nl u nt n s a l d first last b c t) (q:TellIn F h0 (h.set i (.box 138 e)++M) i s a r):
  PartIn F h0 (h.set i (.box 138 e)++M) i m nl u nt n s a l d first last b c r:=by
 obtain ⟨p,x,y,k3,_⟩:=k.t.at_
 have A:=jW k3 k.b1 (by decide)
 have w:=jW k3 k.b2 (by decide)
 have z:=jW k3 k.b3 (by decide)
 have B:=jW k3 k.b4 (by decide)
 have C:=jW k3 k.b5 (by decide)
 have g:∀ {j:Nat} {o:Ob},i≠j->h[j]? =some o->(h.set i (.box 138 e)++M)[j]? =some o:=λf v=>zb (by rw[List.getElem?_set_ne f];exact v)
 exact ⟨k.n1,k.n2,k.n3,k.n4,k.n5,g A k.b1,g w k.b2,g z k.b3,g B k.b4,g C k.b5,q,(k.b6.set_box k3 _).app _⟩
theorem PartIn.tell2 {F:List (Nat × List AV)} {h0 h:List Ob} {i u nl z nt v id ty e st:Nat} {xs:List (List AV)} {r:Ob} {s:Setup} {a:SA} {o:AV} {f:List (List AV)} {first last b:Int} {c:Ev} {t w:TellS} {m:List AV} {M:List Ob} (k:PartIn F h0 h i u nl z nt v s a o f first last b c t) (d:h[id]? =some (.row ty e xs st)) (G:75≠ty) (q:TellIn F h0 ((h.set id r).set i (.box 138 m)++M) i s a w):
  PartIn F h0 ((h.set id r).set i (.box 138 m)++M) i u nl z nt v s a o f first last b c w:=by
 obtain ⟨p,x,y,k3,_⟩:=k.t.at_
 have C:=jW k3 k.b1 (by decide)
 have A:=jW k3 k.b2 (by decide)
 have B:=jW k3 k.b3 (by decide)
 have D:=jW k3 k.b4 (by decide)
 have E:=jW k3 k.b5 (by decide)
 have g:∀ {j t:Nat} {ds:List AV},i≠j->h[j]? =some (.box t ds)->((h.set id r).set i (.box 138 m)++M)[j]? =some (.box t ds):=λn l=>zb (by
  have:∀ {j t:Nat} {ds:List AV},h[j]? =some (.box t ds)->id≠j:=λl q=>by rw[q,l] at d;cases d
  rw[List.getElem?_set_ne n,List.getElem?_set_ne (this l)];exact l)
 exact ⟨k.n1,k.n2,k.n3,k.n4,k.n5,g C k.b1,g A k.b2,g B k.b3,g D k.b4,g E k.b5,q,((k.b6.set_row d G _).set_box (show (h.set id r)[i]? =some (.box 138 (xZ s a p x y)) by rw[List.getElem?_set_ne (λq=>by rw[q,k3] at d;cases d)];exact k3) _).app _⟩
theorem PartIn.pre {F:List (Nat × List AV)} {h0 h:List Ob} {i f nl j nt g:Nat} {s:Setup} {a:SA} {e:AV} {d:List (List AV)} {first last b:Int} {c:Ev} {t:TellS} (k:PartIn F h0 h i f nl j nt g s a e d first last b c t):Pre h0 h:=k.t.pre
theorem PartIn.app {F:List (Nat × List AV)} {h0 h M:List Ob} {i f nl j nt g:Nat} {s:Setup} {a:SA} {e:AV} {d:List (List AV)} {first last b:Int} {c:Ev} {t:TellS} (k:PartIn F h0 h i f nl j nt g s a e d first last b c t) (l:NoRes M):PartIn F h0 (h++M) i f nl j nt g s a e d first last b c t:=
 ⟨k.n1,k.n2,k.n3,k.n4,k.n5,zb k.b1,zb k.b2,zb k.b3,zb k.b4,zb k.b5,k.t.app l,k.b6.app M⟩
theorem PartIn.any {F:List (Nat × List AV)} {h0 h:List Ob} {i e nl n nt g:Nat} {s:Setup} {a:SA} {f:AV} {c:List (List AV)} {first last b:Int} {d:Ev} {t:TellS} (k:PartIn F h0 h i e nl n nt g s a f c first last b d t) (j:Int) (m:Ev) (l:TellS):
  ∃r h',(r=AV.tup []/\PartIn F h0 h' i e nl n nt g s a f c first last j m l)/\ResK h h':=by
 have k2:=k.next j m
 obtain ⟨o,x',y',M,_,q⟩:=k2.t.any l
 have k3:=k2.tell q
 exact ⟨_,_,⟨rfl,k3⟩,k.pre.resK k3.pre⟩
def vi (first last:Int) (z:Int × Ev × TellS) (x:Ev):Int × Ev × TellS:=(toP first last x.at_,x,vh z.2.2 z.1 (toP first last x.at_) z.2.1)
theorem Jp {t:TellS} {b to_:Int} {e:Ev}:(vh t b to_ e).flags=t.flags:=by unfold vh;split<;>rfl
theorem K3 {t:TellS} {b to_:Int} {e:Ev}:(vh t b to_ e).segs.length<=t.segs.length+1:=by unfold vh;split<;>simp
theorem QT {first last:Int} (os:List Ev):∀ {z:Int × Ev × TellS},(os.foldl (vi first last) z).2.2.segs.length<=z.2.2.segs.length+os.length:=by
 induction os with
 | nil=>intro z;simp
 | cons x os d=>
   intro z
   rw[List.foldl_cons]
   have a:=d (z:=vi first last z x)
   have f:=K3 (t:=z.2.2) (b:=z.1) (to_:=toP first last x.at_) (e:=z.2.1)
   have c:(vi first last z x).2.2=vh z.2.2 z.1 (toP first last x.at_) z.2.1:=rfl
   rw[c] at a
   rw[List.length_cons]
   omega
def xh (first last:Int) (t:TellS) (e:Ev) (os:List Ev):Int × Ev × TellS:=os.foldl (vi first last) (first,e,t)
def xM (first last:Int) (t:TellS) (e:Ev) (os:List Ev):TellS:=vh (xh first last t e os).2.2 (xh first last t e os).1 (toP first last last) (xh first last t e os).2.1
theorem zGa {first last:Int} (os:List Ev):∀ {z:Int × Ev × TellS},(os.foldl (vi first last) z).2.2.flags=z.2.2.flags:=by
 induction os with
 | nil=>intro z;rfl
 | cons x os a=>
   intro z
   rw[List.foldl_cons,a]
   exact Jp
theorem W3 {first last:Int} {t:TellS} {e:Ev} {os:List Ev}:(xh first last t e os).2.2.flags=t.flags:=zGa os
end Go.Proofs.YtigdlmpjijhpaaaGreat.Ax
