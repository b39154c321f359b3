/-
  Joined.
-/
import Derived.Test.YtfmldcilgbbimaaGreatK16
set_option linter.unusedSimpArgs false
set_option linter.unusedVariables false
namespace Go.Proofs.YtfmldcilgbbimaaGreat.Ax
open Go Go.Proofs
set_option maxRecDepth 100000
theorem Qma {k:Nat} (h:k<1099511627776):wr (2*(k:Int))=((2*k:Nat):Int):=by rw[zt (by unfold Fit;omega)];omega
theorem Qna {k:Nat} (h:k<1099511627776):wr ((k:Int)*2)=((2*k:Nat):Int):=by rw[zt (by unfold Fit;omega)];omega
theorem dle {a b:Nat} (e:decide ((a:Int)<=(b:Int))=true):a<=b:=by simpa using e
theorem Qoa {a b:Nat} (e:decide ((a:Int)<=(b:Int))=false):b<a:=by simpa using e
theorem Zc {l:List Ev} {n:Nat} (h:n<=l.length):∃a b,l=a++b/\a.length=n:=⟨l.take n,l.drop n,(List.take_append_drop _ _).symm,by simp;omega⟩
set_option maxHeartbeats 1000000 in
theorem JHa (h:List Ob) (id st n:Nat) (l:List Ev) (u:h[id]? =some (zV l st)) (H:n=l.length) (S:l.length<1099511627776):
  ACalls Tryz.prog 163 [.tl id st,i64 n,.fn (.func 97) [] []] h λr h'=>r= .tup []/\h'=h.set id (zV (zC l) st):=by
 have t:∀o,(h.set id o)[id]? =some o:=λo=>zh u
 refine zf Tryz.f163 [] 63 rfl rfl rfl rfl rfl rfl (by decide) (⟨_,_,⟨rfl,rfl⟩,zJ u rfl⟩) λB=>?_
 simp only[go_sem]
 refine zk (by decide) (λk T h'=>∃D R,D++blkE 20 R=blkE 20 l/\D.length+R.length=n/\h'=h.set id (zV (D++R) st)/\T 0= .tl id st/\T 1=i64 n/\T 2= .fn (.func 97) [] []/\T 6=i64 (20:Nat)/\T 7=i64 D.length/\T 8=i64 (D.length+20:Nat)/\k=R.length) l.length
  ⟨[],l,rfl,by simp[H],(zW u).symm,by simp only[go_sem],by simp only[go_sem],by simp only[go_sem],by (simp only[go_sem]<;>rfl),by (simp only[go_sem]<;>rfl),by (simp only[go_sem]<;>rfl),rfl⟩ ?_
 rintro k T h' ⟨D,R,f,m,rfl,t0,t1,t2,t6,i,t8,rfl⟩
 simp only[go_sem,t1,t8]
 refine ways (λe=>?_) (λe=>?_)
 ·have v:=dle e
  obtain ⟨d,c,rfl,g⟩:=Zc (l:=R) (n:=20) (by omega)
  simp only[List.length_append] at m
  have s:wr (((D.length+20:Nat):Int)+20)=((D.length+20+20:Nat):Int):=ws (b:=20) (by omega)
  rw[yJ g (by omega)] at f
  have Q:=qB d
  simp only[go_sem,t0,t2,t6,i,t8]
  refine zd (Qla _ id st _ _ D d c (t _) rfl (by omega) (by simp;omega)) ?_
  rintro _ w ⟨rfl,j⟩
  subst j
  simp only[go_sem,t8,t6,s,List.set_set]
  exact ⟨c.length,by omega,D++zC d,c,by rw[<-f];simp,by simp;omega,by simp,t0,t1,t2,qR (by simp;omega),qR (by simp;omega),rfl⟩
 ·have q:=Qoa e
  have I:R.length<20:=by omega
  rw[wh (by omega)] at f
  simp only[go_sem,t0,t1,t2,i]
  refine zd (Qla _ id st _ _ D R [] (by rw[t];simp) rfl (by omega) (by simp;omega)) ?_
  rintro _ w ⟨rfl,j⟩
  subst j
  rw[List.append_nil,f]
  simp only[go_sem,List.set_set]
  refine zk (by decide) (λk T h'=>∃a:Nat,0<a/\a<2199023255552/\h'=h.set id (zV (blkE a l) st)/\T 0= .tl id st/\T 1=i64 n/\T 2= .fn (.func 97) [] []/\T 6=i64 a/\k=n - a) (n - 20)
   ⟨20,by omega,by omega,rfl,by simp only[go_sem,t0],by simp only[go_sem,t1],by simp only[go_sem,t2],by simp only[go_sem,t6],rfl⟩ ?_
  clear t0 t1 t2 t6 i t8 f m I q e
  rintro k T h' ⟨a,L,J,rfl,t0,t1,t2,t6,rfl⟩
  simp only[go_sem,t1,t6]
  refine ways (λe=>?_) (λe=>?_)
  ·have M:=dlt e
   have s:=Qma (k:=a) (by omega)
   have G:=Qna (k:=a) (by omega)
   simp only[go_sem,t6,s]
   refine zk (by decide) (λk T h'=>∃D R,D++blkE (2*a) R=blkE (2*a) l/\D.length+R.length=n/\h'=h.set id (zV (D++blkE a R) st)/\T 0= .tl id st/\T 1=i64 n/\T 2= .fn (.func 97) [] []/\T 6=i64 a/\T 7=i64 D.length/\T 8=i64 (D.length+2*a:Nat)/\k=R.length) l.length
    ⟨[],l,rfl,by simp[H],rfl,by simp only[go_sem,t0],by simp only[go_sem,t1],by simp only[go_sem,t2],by simp only[go_sem,t6],by (simp only[go_sem]<;>rfl),by (simp only[go_sem]<;>exact qR (by simp)),rfl⟩ ?_
   clear t0 t1 t2 t6
   rintro k T h' ⟨D,R,f,m,rfl,t0,t1,t2,t6,i,t8,rfl⟩
   simp only[go_sem,t1,t8]
   refine ways (λe=>?_) (λe=>?_)
   ·have v:=dle e
    obtain ⟨d,K,rfl,g⟩:=Zc (l:=R) (n:=a) (by omega)
    obtain ⟨c,p,rfl,E⟩:=Zc (l:=K) (n:=a) (by simp at m;omega)
    simp only[List.length_append] at m
    have x:wr (((D.length:Nat):Int)+(a:Int))=((D.length+a:Nat):Int):=ws (by omega)
    have P:wr (((D.length+2*a:Nat):Int)+((2*a:Nat):Int))=((D.length+2*a+2*a:Nat):Int):=ws (by omega)
    have O:blkE (2*a) (d++(c++p))=zC (d++c)++blkE (2*a) p:=by
     rw[<-List.append_assoc,yJ (by simp;omega) (by omega)]
    rw[O] at f
    rw[yJ g (by omega),yJ E (by omega)]
    have y:=qB d
    have z:=qB c
    have A:=qB (d++c)
    simp only[List.length_append] at A
    have N:=ksa a p
    simp only[go_sem,t0,t2,t6,i,t8,x]
    refine zd (wda _ _ id st _ _ _ D (zC d) (zC c) (blkE a p) (t _) rfl (by omega) (by omega) (by omega) (by omega) (xD _) (xD _) (by omega) (Nat.le_refl _)) ?_
    rintro _ w ⟨rfl,j⟩
    subst j
    rw[wS]
    simp only[go_sem,t8,t6,s,P,List.set_set]
    exact ⟨p.length,by omega,D++zC (d++c),p,by rw[<-f];simp,by simp;omega,by simp,t0,t1,t2,qR (by simp;omega),qR (by simp;omega),rfl⟩
   ·have q:=Qoa e
    have x:wr (((D.length:Nat):Int)+(a:Int))=((D.length+a:Nat):Int):=ws (by omega)
    simp only[go_sem,t1,t6,i,x]
    refine ways (λe=>?_) (λe=>?_)
    ·have F:=dlt e
     obtain ⟨d,c,rfl,g⟩:=Zc (l:=R) (n:=a) (by omega)
     simp only[List.length_append] at m
     rw[yJ g (by omega),wh (by omega)]
     rw[wh (by simp;omega), <-wS] at f
     have y:=qB d
     have z:=qB c
     simp only[go_sem,t0,t1,t2,t6,i]
     refine zd (wda _ _ id st _ _ _ D (zC d) (zC c) [] (by rw[t];simp) rfl (by omega) (by omega) (by omega) (by omega) (xD _) (xD _) (by simp;omega) (Nat.le_refl _)) ?_
     rintro _ w ⟨rfl,j⟩
     subst j
     rw[List.append_nil,f]
     simp only[go_sem,t6,G,List.set_set]
     exact ⟨n - 2*a,by omega,2*a,by omega,by omega,rfl,t0,t1,t2,rfl,rfl⟩
    ·have C:=jd e
     rw[wh (by omega)]
     rw[wh (by omega)] at f
     rw[f]
     simp only[go_sem,t6,G]
     exact ⟨n - 2*a,by omega,2*a,by omega,by omega,rfl,t0,t1,t2,rfl,rfl⟩
  ·have C:=jd e
   rw[wh (by omega)]
   simp only[go_sem]
   exact ⟨.tup [],by simp only[go_sem],.inl ⟨rfl,rfl⟩⟩
theorem WP {h:List Ob} {x:AV} {r:List AV} {rs:List (List AV)} (b:zo h x=some (r::rs)):(∃e xs,x= .sl e xs)∨(∃i s,x= .tl i s)∨(∃a e i n,x= .vw a e i n):=by
 cases x with
 | sl e xs=>exact .inl ⟨_,_,rfl⟩
 | tl i s=>exact .inr (.inl ⟨_,_,rfl⟩)
 | vw a e i n=>exact .inr (.inr ⟨_,_,_,_,rfl⟩)
 | v x=>
   unfold zo at b
   split at b<;>rename_i heq<;>first
    | (cases heq;done)
    | (injection heq with heq;subst heq;injection b with b;cases b)
    | cases b
 | em=>injection b with b;cases b
 | _=>cases b
theorem yZa (l:List Ev):((l.map evC).all λr=>r.length==11 && r.all AV.one)=true:=by
 rw[List.all_eq_true]
 intro r a
 obtain ⟨e,_,rfl⟩:=List.mem_map.1 a
 rfl
theorem Qpa (x f:AV):qX Tryz.prog 215 [x,i64 0,i64 0,f] (.tup []):=λh=>by
 refine zf Tryz.f215 [] 53 rfl rfl rfl rfl rfl rfl (by decide) (⟨_,_,⟨rfl,rfl⟩,.refl⟩) λB=>?_
 simp only[go_sem]
 refine kr 1 (qL (by decide) ?_)
 simp only[go_sem]
 (first | refine zc ?_ | refine ze ?_ (by rfl))<;>(simp only[go_sem]<;>try rfl)
theorem Qqa (x f:AV):qX Tryz.prog 163 [x,i64 0,f] (.tup []):=λh=>by
 refine zf Tryz.f163 [] 63 rfl rfl rfl rfl rfl rfl (by decide) (⟨_,_,⟨rfl,rfl⟩,.refl⟩) λB=>?_
 simp only[go_sem]
 refine kr 1 (qL (by decide) ?_)
 simp only[go_sem]
 refine zd (Qpa _ _ _) ?_
 rintro _ b ⟨rfl,a⟩
 subst a
 simp only[go_sem]
 refine kr 1 (qL (by decide) ?_)
 simp only[go_sem]
 (first | refine zc ?_ | refine ze ?_ (by rfl))<;>(simp only[go_sem]<;>try rfl)
theorem c88 (h:List Ob) (id st:Nat) (l:List Ev) (a:h[id]? =some (zV l st)) (b:l.length<1099511627776):
  ACalls Tryz.prog 99 [.tl id st,.fn (.func 97) [] []] h λr h'=>r= .tup []/\h'=h.set id (zV (zC l) st):=by
 refine zf Tryz.f99 [] 9 rfl rfl rfl rfl rfl rfl (by decide) (⟨_,_,⟨rfl,rfl⟩,zJ a rfl⟩) λB=>?_
 simp only[go_sem,a,List.length_map]
 refine zd (JHa _ id st _ l a rfl b) ?_
 rintro _ d ⟨rfl,c⟩
 subst c
 simp only[go_sem]
 exact ⟨.tup [],by simp only[go_sem],.inl ⟨rfl,rfl⟩⟩
theorem JIa (f:AV):qX Tryz.prog 99 [.v (.slice none 0 0),f] (.tup []):=λh=>by
 refine zf Tryz.f99 [] 9 rfl rfl rfl rfl rfl rfl (by decide) (⟨_,_,⟨rfl,rfl⟩,.refl⟩) λB=>?_
 simp only[go_sem]
 refine zd (Qqa _ _ _) ?_
 rintro _ b ⟨rfl,a⟩
 subst a
 simp only[go_sem]
 (first | refine zc ?_ | refine ze ?_ (by rfl))<;>(simp only[go_sem]<;>try rfl)
theorem c87 (h:List Ob) (x:AV) (l:List Ev) (g:SlOf h x 11 (l.map evC)) (t:l.length<1099511627776):
  ACalls Tryz.prog 87 [x] h λr h'=>(l=[]/\h'=h/\r= .v (.slice none 0 0))∨(h'=h++[zV l 1]/\r= .tl h.length 1):=by
 refine vm (N:=8) (rs:=[.tmp 2]) (fn:=Tryz.f87) rfl rfl rfl rfl (Nat.le_of_ble_eq_true rfl) rfl (⟨_,_,.inr ⟨rfl,rfl⟩,zT⟩) λB=>?_
 cases l with
 | nil=>
   refine qga 0 rfl g.rows (λm=>?_) ?_
   ·refine qr _ (by decide) ?_;simp only[go_sem]
    exact ⟨.v (.slice none 0 0),by simp only[go_sem],.inl (.inl ⟨rfl,rfl⟩)⟩
   ·refine qr _ (by decide) ?_;simp only[go_sem]
    exact ⟨.tl h.length 1,by simp only[go_sem],.inl (.inr ⟨rfl,rfl⟩)⟩
 | cons y l=>
   have q:=g.at (i:=0) (by simp)
   have f:=g.rows
   have o:yB x=false:=by
    rcases WP f with ⟨e,xs,rfl⟩ | ⟨i,s,rfl⟩ | ⟨a,e,i,n,rfl⟩<;>rfl
   unfold yB at o
   have b:∀L,zo (h++L) x=some ((y::l).map evC):=λL=>(g.app L).rows
   have k:=yZa (y::l)
   have d:((y::l).map evC).length*89<=140737488355328:=by rw[List.length_map];omega
   obtain ⟨L,j⟩:∃L,L=(y::l).map evC:=⟨_,rfl⟩
   rw[<-j] at f b k d
   obtain ⟨r,p,c⟩:∃r p,L=r::p:=⟨_,_,j⟩
   rw[c] at f b k d
   rw[List.length_cons] at d
   refine qr _ (by decide) ?_;simp only[go_sem,f,q,o,b,k,d,Bool.or_true,decide_true]
   refine ⟨.tl h.length 1,by simp only[go_sem],.inl (.inr ⟨?_,rfl⟩)⟩
   rw[<-c,j]
theorem c57 (h:List Ob) (x:AV) (l:List Ev) (e:SlOf h x 11 (l.map evC)) (b:l.length<1099511627776):
  ACalls Tryz.prog 49 [x] h λr h'=>(l=[]/\h'=h/\r= .v (.slice none 0 0))∨(h'=h++[zV (zC l) 1]/\r= .tl h.length 1):=by
 refine zf Tryz.f49 [.tmp 2] 9 rfl rfl rfl rfl rfl rfl (by decide) (⟨_,_,.inr ⟨rfl,rfl⟩,zT⟩) λB=>?_
 simp only[go_sem]
 refine zd (c87 h x l e b) ?_
 rintro _ f (⟨rfl,rfl,rfl⟩ | ⟨rfl,rfl⟩)
 ·simp only[go_sem]
  refine zd (JIa _ _) ?_
  rintro _ d ⟨rfl,a⟩
  subst a
  simp only[go_sem]
  exact ⟨.v (.slice none 0 0),by simp only[go_sem],.inl (.inl ⟨rfl,rfl⟩)⟩
 ·have c:(h++[zV l 1])[h.length]? =some (zV l 1):=by simp
  simp only[go_sem]
  refine zd (c88 _ _ _ l c b) ?_
  rintro _ d ⟨rfl,a⟩
  subst a
  simp only[go_sem]
  refine ⟨.tl h.length 1,by simp only[go_sem],.inl (.inr ⟨?_,rfl⟩)⟩
  simp
def NoRes (L:List Ob):Prop:=∀o∈L,o.isRes=false
def Pre (h0 h:List Ob):Prop:=∃L,h=h0++L/\NoRes L
theorem Pre.refl {h:List Ob}:Pre h h:=⟨[],by simp,λ_ h=>by cases h⟩
theorem Pre.app {h0 h M:List Ob} (k:Pre h0 h) (b:NoRes M):Pre h0 (h++M):=by
 obtain ⟨L,rfl,c⟩:=k
 refine ⟨L++M,by simp,λo a=>?_⟩
 rcases List.mem_append.1 a with a | a
 ·exact c o a
 ·exact b o a
theorem Pre.set {h0 h:List Ob} {i:Nat} {o:Ob} (k:Pre h0 h) (b:h0.length<=i) (c:o.isRes=false):Pre h0 (h.set i o):=by
 obtain ⟨L,rfl,d⟩:=k
 refine ⟨L.set (i - h0.length) o,by rw[List.set_append_right _ _ b],λx a=>?_⟩
 rcases List.mem_or_eq_of_mem_set a with a | a
 ·exact d x a
 ·rw[a];exact c
theorem Pre.resK {h0 h h':List Ob} (k:Pre h0 h) (k':Pre h0 h'):ResK h h':=by
 obtain ⟨L,rfl,c⟩:=k
 obtain ⟨d,rfl,_⟩:=k'
 intro i a
 rcases Nat.lt_or_ge i h0.length with b | b
 ·rw[List.getElem?_append_left b] at a⊢
  exact a
 ·rw[List.getElem?_append_right b] at a
  have:=c _ (List.mem_of_getElem? a)
  cases this
theorem Pre.sin {h0 h:List Ob} (k:Pre h0 h) {s:Setup} {a:SA} (q:SIn h0 s a):SIn h s a:=by
 obtain ⟨L,rfl,_⟩:=k
 exact q.app L
theorem Pre.sl {h0 h:List Ob} (k:Pre h0 h) {x:AV} {e:Nat} {rows:List (List AV)} (q:SlOf h0 x e rows):SlOf h x e rows:=by
 obtain ⟨L,rfl,_⟩:=k
 exact q.app L
theorem Pre.len {h0 h:List Ob} (k:Pre h0 h):h0.length<=h.length:=by
 obtain ⟨L,rfl,_⟩:=k
 simp
theorem Pre.trans {h0 h h':List Ob} (k:Pre h0 h) (k':Pre h h'):Pre h0 h':=by
 obtain ⟨L,rfl,a⟩:=k'
 exact k.app a
theorem zj {o:Ob} (h:o.isRes=false):NoRes [o]:=λx a=>by rw[List.mem_singleton.1 a];exact h
theorem jF:NoRes []:=λ_ h=>by cases h
theorem zg {o:Ob} {L:List Ob} (h:o.isRes=false) (k:NoRes L):NoRes (o::L):=λx a=>by
 rcases List.mem_cons.1 a with rfl | a
 ·exact h
 ·exact k x a
def OwnS (h0 h:List Ob) (ty e:Nat) (x:AV) (rows:List (List AV)):Prop:=(x= .v (.slice none 0 0)/\rows=[])∨∃id st,h0.length<=id/\x= .tl id st/\h[id]? =some (.row ty e rows st)
theorem OwnS.app {h0 h:List Ob} {ty e:Nat} {x:AV} {rows:List (List AV)} (k:OwnS h0 h ty e x rows) (M:List Ob):OwnS h0 (h++M) ty e x rows:=by
 rcases k with k | ⟨id,st,k1,k2,k3⟩
 ·exact .inl k
 ·exact .inr ⟨id,st,k1,k2,zb k3⟩
theorem OwnS.set_box {h0 h:List Ob} {ty e:Nat} {x:AV} {rows:List (List AV)} (k:OwnS h0 h ty e x rows) {i t:Nat} {b:List AV} (a:h[i]? =some (.box t b)) (o:Ob):OwnS h0 (h.set i o) ty e x rows:=by
 rcases k with k | ⟨id,st,k1,k2,k3⟩
 ·exact .inl k
 ·refine .inr ⟨id,st,k1,k2,?_⟩
  have:i≠id:=λq=>by rw[q,k3] at a;cases a
  rw[List.getElem?_set_ne this]
  exact k3
theorem OwnS.set_row {h0 h:List Ob} {ty e:Nat} {x:AV} {rows:List (List AV)} (k:OwnS h0 h ty e x rows) {i t b s:Nat} {xs:List (List AV)} (a:h[i]? =some (.row t b xs s)) (c:ty≠t) (o:Ob):OwnS h0 (h.set i o) ty e x rows:=by
 rcases k with k | ⟨id,st,k1,k2,k3⟩
 ·exact .inl k
 ·refine .inr ⟨id,st,k1,k2,?_⟩
  have:i≠id:=λq=>by rw[q,k3] at a;injection a with a;injection a with h1;exact c h1
  rw[List.getElem?_set_ne this]
  exact k3
theorem OwnS.rows {h0 h:List Ob} {ty e:Nat} {x:AV} {rows:List (List AV)} (k:OwnS h0 h ty e x rows):SlOf h x e rows:=by
 rcases k with ⟨rfl,rfl⟩ | ⟨id,st,_,rfl,k3⟩
 ·exact ⟨rfl,λh=>absurd rfl h⟩
 ·refine ⟨?_,λ_=>?_⟩
  ·rw[zO,k3,xC,if_pos rfl]
  ·rw[qJ,k3,vh]
structure Seg where
 from_:Int
 to_:Int
 kind:Int
 id:Int
 code:Int
abbrev j7 (g:Seg):List AV:=[i64 g.from_,i64 g.to_,i64 g.kind,i64 g.id,i64 g.code]
structure Flg where
 id:Int
 kind:Int
abbrev xI (f:Flg):List AV:=[i64 f.id,i64 f.kind]
structure TellS where
 open_:Option (Ev × List Ev)
 segs:List Seg
 flags:List Flg
abbrev WQ (e:Ev) (o:AV):List AV:=evC e++[o]
abbrev xT (s:Setup) (a:SA) (p x y:AV):List AV:=zr s a++[p,x,y]
def OpenIn (h0 h:List Ob) (p:AV):Option (Ev × List Ev)->Prop
 | none=>p= .v (.pointer none)
 | some (e,os)=>∃j o,h0.length<=j/\p= .ptr j 0/\h[j]? =some (.box 216 (WQ e o))/\OwnS h0 h 73 11 o (os.map evC)
theorem OpenIn.app {h0 h:List Ob} {p:AV}:∀ {t:Option (Ev × List Ev)},OpenIn h0 h p t->∀M,OpenIn h0 (h++M) p t
 | none,k,_=>k
 | some (e,os),⟨j,o,k1,k2,k3,k4⟩,M=>⟨j,o,k1,k2,zb k3,k4.app M⟩
theorem OpenIn.set_box {h0 h:List Ob} {p:AV}:∀ {t:Option (Ev × List Ev)},OpenIn h0 h p t->∀ {i ty:Nat} {b:List AV},h[i]? =some (.box ty b)->ty≠216->∀o,OpenIn h0 (h.set i o) p t
 | none,k,_,_,_,_,_,_=>k
 | some (e,os),⟨j,x,k1,k2,k3,k4⟩,i,ty,b,a,c,o=>⟨j,x,k1,k2,by
   have:i≠j:=λq=>by rw[q,k3] at a;injection a with a;injection a with h1;exact c h1.symm
   rw[List.getElem?_set_ne this];exact k3,k4.set_box a o⟩
theorem OpenIn.set_row {h0 h:List Ob} {p:AV}:∀ {t:Option (Ev × List Ev)},OpenIn h0 h p t->∀ {i ty e s:Nat} {xs:List (List AV)},h[i]? =some (.row ty e xs s)->ty≠73->∀o,OpenIn h0 (h.set i o) p t
 | none,k,_,_,_,_,_,_,_,_=>k
 | some (e,os),⟨j,x,k1,k2,k3,k4⟩,i,ty,c,s,xs,a,b,o=>⟨j,x,k1,k2,by
   have:i≠j:=λq=>by rw[q,k3] at a;cases a
   rw[List.getElem?_set_ne this];exact k3,k4.set_row a (Ne.symm b) o⟩
def Kept (F:List (Nat × List AV)) (h:List Ob):Prop:=∀z∈F,h[z.1]? =some (.box 73 z.2)
theorem Kept.app {F:List (Nat × List AV)} {h:List Ob} (k:Kept F h) (M:List Ob):Kept F (h++M):=λz a=>zb (k z a)
theorem Kept.set_box {F:List (Nat × List AV)} {h:List Ob} (k:Kept F h) {i ty:Nat} {c:List AV} (a:h[i]? =some (.box ty c)) (e:ty≠73) (o:Ob):Kept F (h.set i o):=λz d=>by
 have:=k z d
 have b:i≠z.1:=λq=>by rw[q,this] at a;injection a with a;injection a with a;exact e a.symm
 rw[List.getElem?_set_ne b]
 exact this
theorem Kept.set_row {F:List (Nat × List AV)} {h:List Ob} (k:Kept F h) {i ty e st:Nat} {xs:List (List AV)} (b:h[i]? =some (.row ty e xs st)) (o:Ob):Kept F (h.set i o):=λz c=>by
 have:=k z c
 have a:i≠z.1:=λq=>by rw[q,this] at b;cases b
 rw[List.getElem?_set_ne a]
 exact this
theorem Kept.set_ne {F:List (Nat × List AV)} {h:List Ob} (k:Kept F h) {i:Nat} (b:∀z∈F,z.1≠i) (o:Ob):Kept F (h.set i o):=λz a=>by
 rw[List.getElem?_set_ne (Ne.symm (b z a))]
 exact k z a
structure TellIn (F:List (Nat × List AV)) (h0 h:List Ob) (i:Nat) (s:Setup) (a:SA) (t:TellS):Prop where
 pre:Pre h0 h
 le:h0.length<=i
 kept:Kept F h
 at_:∃p x y,h[i]? =some (.box 129 (xT s a p x y))/\OwnS h0 h 137 5 x (t.segs.map j7)/\OwnS h0 h 97 2 y (t.flags.map xI)/\OpenIn h0 h p t.open_
theorem TellIn.app {F:List (Nat × List AV)} {h0 h M:List Ob} {i:Nat} {s:Setup} {a:SA} {t:TellS} (k:TellIn F h0 h i s a t) (c:NoRes M):TellIn F h0 (h++M) i s a t:=by
 obtain ⟨k1,k2,b,p,x,y,k3,k4,k5,k6⟩:=k
 exact ⟨k1.app c,k2,b.app M,p,x,y,zb k3,k4.app M,k5.app M,k6.app M⟩
def xE (t:TellS) (e:Ev) (k:Int):TellS:=⟨t.open_,t.segs,t.flags++[⟨e.id,k⟩]⟩
theorem zl {α:Type} {l M:List α} {n k:Nat} (a:n=l.length):(l++M)[n+k]? =M[k]? :=by
 rw[List.getElem?_append_right (by omega),show n+k - l.length=k by omega]
theorem zm {α:Type} {l M:List α} {n:Nat} (a:n=l.length):(l++M)[n]? =M[0]? :=zl (k:=0) a
theorem TellIn.any {F:List (Nat × List AV)} {h0 h:List Ob} {i:Nat} {s:Setup} {a:SA} {t:TellS} (k:TellIn F h0 h i s a t) (b:TellS):∃g x' y' M,NoRes M/\TellIn F h0 (h.set i (.box 129 (xT s a g x' y'))++M) i s a b:=by
 obtain ⟨k1,k2,f,p,x,y,k3,k4,k5,k6⟩:=k
 have c:=k1.len
 have j:i<h.length:=by
  rcases Nat.lt_or_ge i h.length with q | q
  ·exact q
  ·rw[List.getElem?_eq_none q] at k3;cases k3
 cases d:b.open_ with
 | none=>
   refine ⟨.v (.pointer none),.tl (h.length+0) 0,.tl (h.length+1) 0,[.row 137 5 (b.segs.map j7) 0,.row 97 2 (b.flags.map xI) 0],zg rfl (zj rfl),(k1.set k2 rfl).app (zg rfl (zj rfl)),k2,(f.set_box k3 (by decide) _).app _,_,_,_,zb (zh k3),.inr ⟨_,0,?_,rfl,?_⟩,.inr ⟨_,0,?_,rfl,?_⟩,?_⟩
   ·omega
   ·rw[zl (by simp)];rfl
   ·omega
   ·rw[zl (by simp)];rfl
   ·rw[d];rfl
 | some q=>
   obtain ⟨e,os⟩:=q
   refine ⟨.ptr (h.length+3) 0,.tl (h.length+0) 0,.tl (h.length+1) 0,[.row 137 5 (b.segs.map j7) 0,.row 97 2 (b.flags.map xI) 0,.row 73 11 (os.map evC) 0,.box 216 (WQ e (.tl (h.length+2) 0))],zg rfl (zg rfl (zg rfl (zj rfl))),(k1.set k2 rfl).app (zg rfl (zg rfl (zg rfl (zj rfl)))),k2,(f.set_box k3 (by decide) _).app _,_,_,_,zb (zh k3),.inr ⟨_,0,?_,rfl,?_⟩,.inr ⟨_,0,?_,rfl,?_⟩,?_⟩
   ·omega
   ·rw[zl (by simp)];rfl
   ·omega
   ·rw[zl (by simp)];rfl
   ·rw[d]
    refine ⟨h.length+3,.tl (h.length+2) 0,?_,rfl,?_,.inr ⟨h.length+2,0,?_,rfl,?_⟩⟩
    ·omega
    ·rw[zl (by simp)];rfl
    ·omega
    ·rw[zl (by simp)];rfl
def Zq (k:Int):Int:=if k=3 then 1 else if k=4 then 2 else if k=5 then 3 else 0
def toP (first last to_:Int):Int:=max first (min to_ last)
def va (t:TellS) (a to_:Int) (e:Ev):TellS:=if a<to_ then ⟨t.open_,t.segs++[⟨a,to_,Zq e.kind,e.id,e.code⟩],t.flags⟩ else t
theorem TellIn.keep {F:List (Nat × List AV)} {h0 h:List Ob} {i:Nat} {s:Setup} {a:SA} {t:TellS} (k:TellIn F h0 h i s a t) (e:Ev):TellIn ((h.length,evC e)::F) h0 (h++[.box 73 (evC e)]) i s a t:=by
 have q:=k.app (M:=[.box 73 (evC e)]) (zj rfl)
 refine ⟨q.pre,q.le,λz b=>?_,q.at_⟩
 rcases List.mem_cons.1 b with rfl | b
 ·rw[zm rfl];rfl
 ·exact q.kept z b
theorem TellIn.drop {z:Nat × List AV} {F:List (Nat × List AV)} {h0 h:List Ob} {i:Nat} {s:Setup} {a:SA} {t:TellS} (k:TellIn (z::F) h0 h i s a t):TellIn F h0 h i s a t:=⟨k.pre,k.le,λy b=>k.kept y (List.mem_cons_of_mem _ b),k.at_⟩
theorem TellIn.gone {F:List (Nat × List AV)} {h0 h:List Ob} {i id e st:Nat} {xs:List (List AV)} {s:Setup} {a:SA} {t:TellS} (k:TellIn F h0 h i s a t) (b:h[id]? =some (.row 73 e xs st)) (c:h0.length<=id) (f:t.open_=none):TellIn F h0 (h.set id .gone) i s a t:=by
 obtain ⟨k1,k2,g,p,x,y,k3,k4,k5,k6⟩:=k
 have d:id≠i:=λq=>by rw[q,k3] at b;cases b
 rw[f] at k6
 refine ⟨k1.set c rfl,k2,g.set_row b _,p,x,y,by rw[List.getElem?_set_ne d];exact k3,k4.set_row b (by decide) _,k5.set_row b (by decide) _,?_⟩
 rw[f]
 exact k6
structure PartIn (F:List (Nat × List AV)) (h0 h:List Ob) (i nf nl nb nt nq:Nat) (s:Setup) (a:SA) (ow:AV) (ows:List (List AV)) (first last begin_:Int) (by_:Ev) (t:TellS):Prop where
 n1:nf≠nb
 n2:nl≠nb
 n3:h0.length<=nb
 n4:h0.length<=nq
 n5:∀z∈F,z.1≠nq
 b1:h[nf]? =some (.box 3 [i64 first])
 b2:h[nl]? =some (.box 3 [i64 last])
 b3:h[nb]? =some (.box 3 [i64 begin_])
 b4:h[nt]? =some (.box 126 [.ptr i 0])
 b5:h[nq]? =some (.box 73 (evC by_))
 t:TellIn F h0 h i s a t
 b6:OwnS h0 h 73 11 ow ows
theorem TellIn.ex {F:List (Nat × List AV)} {h0 h:List Ob} {i:Nat} {s:Setup} {a:SA} {t:TellS} (k:TellIn F h0 h i s a t) (b:TellS):∃r h',(r=AV.tup []/\TellIn F h0 h' i s a b)/\ResK h h':=by
 obtain ⟨c,x',y',M,_,q⟩:=k.any b
 exact ⟨_,_,⟨rfl,q⟩,k.pre.resK q.pre⟩
theorem TellIn.set_box {F:List (Nat × List AV)} {h0 h:List Ob} {i k ty:Nat} {s:Setup} {a:SA} {t:TellS} {l:List AV} {o:Ob} (q:TellIn F h0 h i s a t) (b:h[k]? =some (.box ty l)) (g:ty≠129) (e:ty≠216) (c:h0.length<=k) (j:o.isRes=false) (f:Kept F (h.set k o)):TellIn F h0 (h.set k o) i s a t:=by
 obtain ⟨k1,k2,m,p,x,y,k3,k4,k5,k6⟩:=q
 have d:k≠i:=λq=>by rw[q,k3] at b;injection b with b;injection b with b;exact g b.symm
 exact ⟨k1.set c j,k2,f,p,x,y,by rw[List.getElem?_set_ne d];exact k3,k4.set_box b o,k5.set_box b o,k6.set_box b e o⟩
theorem jQ {h:List Ob} {i j t u:Nat} {d ds:List AV} (a:h[i]? =some (.box t d)) (b:h[j]? =some (.box u ds)) (c:t≠u):i≠j:=λq=>by
 rw[q,b] at a;injection a with a;injection a with a;exact c a.symm
theorem PartIn.next {F:List (Nat × List AV)} {h0 h:List Ob} {i n nl f nt g:Nat} {s:Setup} {a:SA} {l:AV} {e:List (List AV)} {first last b:Int} {d:Ev} {t:TellS} (k:PartIn F h0 h i n nl f nt g s a l e first last b d t) (j:Int) (o:Ev):
  PartIn F h0 ((h.set f (.box 3 [i64 j])).set g (.box 73 (evC o))) i n nl f nt g s a l e first last j o t:=by
 have q:=jQ k.b5 k.b1 (by decide)
 have r:=jQ k.b5 k.b2 (by decide)
 have m:=jQ k.b5 k.b3 (by decide)
 have p:=jQ k.b5 k.b4 (by decide)
 have u:=jQ k.b3 k.b4 (by decide)
 have c:(h.set f (.box 3 [i64 j]))[g]? =some (.box 73 (evC d)):=by rw[List.getElem?_set_ne (Ne.symm m)];exact k.b5
 refine ⟨k.n1,k.n2,k.n3,k.n4,k.n5,?_,?_,?_,?_,zh c,(k.t.set_box k.b3 (by decide) (by decide) k.n3 rfl (k.t.kept.set_box k.b3 (by decide) _)).set_box c (by decide) (by decide) k.n4 rfl ((k.t.kept.set_box k.b3 (by decide) _).set_ne k.n5 _),(k.b6.set_box k.b3 _).set_box c _⟩
 ·rw[List.getElem?_set_ne q,List.getElem?_set_ne (Ne.symm k.n1)];exact k.b1
 ·rw[List.getElem?_set_ne r,List.getElem?_set_ne (Ne.symm k.n2)];exact k.b2
 ·rw[List.getElem?_set_ne m];exact zh k.b3
 ·rw[List.getElem?_set_ne p,List.getElem?_set_ne u];exact k.b4
theorem PartIn.tell {F:List (Nat × List AV)} {h0 h:List Ob} {i r nl n nt u:Nat} {s:Setup} {a:SA} {m:AV} {d:List (List AV)} {first last b:Int} {c:Ev} {t l:TellS} {f:List AV} {M:List Ob} (k:PartIn F h0 h i r nl n nt u s a m d first last b c t) (q:TellIn F h0 (h.set i (.box 129 f)++M) i s a l):
  PartIn F h0 (h.set i (.box 129 f)++M) i r nl n nt u s a m d first last b c l:=by
 obtain ⟨p,x,y,k3,_⟩:=k.t.at_
 have w:=jQ k3 k.b1 (by decide)
 have B:=jQ k3 k.b2 (by decide)
 have A:=jQ k3 k.b3 (by decide)
 have v:=jQ k3 k.b4 (by decide)
 have C:=jQ k3 k.b5 (by decide)
 have g:∀ {j:Nat} {o:Ob},i≠j->h[j]? =some o->(h.set i (.box 129 f)++M)[j]? =some o:=λe z=>zb (by rw[List.getElem?_set_ne e];exact z)
 exact ⟨k.n1,k.n2,k.n3,k.n4,k.n5,g w k.b1,g B k.b2,g A k.b3,g v k.b4,g C k.b5,q,(k.b6.set_box k3 _).app _⟩
theorem PartIn.tell2 {F:List (Nat × List AV)} {h0 h:List Ob} {i w nl v nt z id ty e st:Nat} {xs:List (List AV)} {r:Ob} {s:Setup} {a:SA} {u:AV} {d:List (List AV)} {first last b:Int} {c:Ev} {t o:TellS} {n:List AV} {M:List Ob} (k:PartIn F h0 h i w nl v nt z s a u d first last b c t) (f:h[id]? =some (.row ty e xs st)) (G:73≠ty) (q:TellIn F h0 ((h.set id r).set i (.box 129 n)++M) i s a o):
  PartIn F h0 ((h.set id r).set i (.box 129 n)++M) i w nl v nt z s a u d first last b c o:=by
 obtain ⟨p,x,y,k3,_⟩:=k.t.at_
 have B:=jQ k3 k.b1 (by decide)
 have D:=jQ k3 k.b2 (by decide)
 have C:=jQ k3 k.b3 (by decide)
 have A:=jQ k3 k.b4 (by decide)
 have E:=jQ k3 k.b5 (by decide)
 have g:∀ {j t:Nat} {ds:List AV},i≠j->h[j]? =some (.box t ds)->((h.set id r).set i (.box 129 n)++M)[j]? =some (.box t ds):=λm l=>zb (by
  have:∀ {j t:Nat} {ds:List AV},h[j]? =some (.box t ds)->id≠j:=λl q=>by rw[q,l] at f;cases f
  rw[List.getElem?_set_ne m,List.getElem?_set_ne (this l)];exact l)
 exact ⟨k.n1,k.n2,k.n3,k.n4,k.n5,g B k.b1,g D k.b2,g C k.b3,g A k.b4,g E k.b5,q,((k.b6.set_row f G _).set_box (show (h.set id r)[i]? =some (.box 129 (xT s a p x y)) by rw[List.getElem?_set_ne (λq=>by rw[q,k3] at f;cases f)];exact k3) _).app _⟩
theorem PartIn.pre {F:List (Nat × List AV)} {h0 h:List Ob} {i g nl f nt j:Nat} {s:Setup} {a:SA} {e:AV} {d:List (List AV)} {first last b:Int} {c:Ev} {t:TellS} (k:PartIn F h0 h i g nl f nt j s a e d first last b c t):Pre h0 h:=k.t.pre
theorem PartIn.app {F:List (Nat × List AV)} {h0 h M:List Ob} {i g nl f nt j:Nat} {s:Setup} {a:SA} {e:AV} {d:List (List AV)} {first last b:Int} {c:Ev} {t:TellS} (k:PartIn F h0 h i g nl f nt j s a e d first last b c t) (l:NoRes M):PartIn F h0 (h++M) i g nl f nt j s a e d first last b c t:=
 ⟨k.n1,k.n2,k.n3,k.n4,k.n5,zb k.b1,zb k.b2,zb k.b3,zb k.b4,zb k.b5,k.t.app l,k.b6.app M⟩
theorem PartIn.any {F:List (Nat × List AV)} {h0 h:List Ob} {i l nl j nt n:Nat} {s:Setup} {a:SA} {f:AV} {c:List (List AV)} {first last b:Int} {d:Ev} {t:TellS} (k:PartIn F h0 h i l nl j nt n s a f c first last b d t) (g:Int) (m:Ev) (e:TellS):
  ∃r h',(r=AV.tup []/\PartIn F h0 h' i l nl j nt n s a f c first last g m e)/\ResK h h':=by
 have k2:=k.next g m
 obtain ⟨o,x',y',M,_,q⟩:=k2.t.any e
 have k3:=k2.tell q
 exact ⟨_,_,⟨rfl,k3⟩,k.pre.resK k3.pre⟩
def vb (first last:Int) (z:Int × Ev × TellS) (x:Ev):Int × Ev × TellS:=(toP first last x.at_,x,va z.2.2 z.1 (toP first last x.at_) z.2.1)
theorem Jk {t:TellS} {b to_:Int} {e:Ev}:(va t b to_ e).flags=t.flags:=by unfold va;split<;>rfl
theorem KX {t:TellS} {b to_:Int} {e:Ev}:(va t b to_ e).segs.length<=t.segs.length+1:=by unfold va;split<;>simp
theorem QO {first last:Int} (os:List Ev):∀ {z:Int × Ev × TellS},(os.foldl (vb first last) z).2.2.segs.length<=z.2.2.segs.length+os.length:=by
 induction os with
 | nil=>intro z;simp
 | cons x os a=>
   intro z
   rw[List.foldl_cons]
   have d:=a (z:=vb first last z x)
   have f:=KX (t:=z.2.2) (b:=z.1) (to_:=toP first last x.at_) (e:=z.2.1)
   have c:(vb first last z x).2.2=va z.2.2 z.1 (toP first last x.at_) z.2.1:=rfl
   rw[c] at d
   rw[List.length_cons]
   omega
def j8 (first last:Int) (t:TellS) (e:Ev) (os:List Ev):Int × Ev × TellS:=os.foldl (vb first last) (first,e,t)
def xF (first last:Int) (t:TellS) (e:Ev) (os:List Ev):TellS:=va (j8 first last t e os).2.2 (j8 first last t e os).1 (toP first last last) (j8 first last t e os).2.1
theorem zqa {first last:Int} (os:List Ev):∀ {z:Int × Ev × TellS},(os.foldl (vb first last) z).2.2.flags=z.2.2.flags:=by
 induction os with
 | nil=>intro z;rfl
 | cons x os a=>
   intro z
   rw[List.foldl_cons,a]
   exact Jk
theorem WR {first last:Int} {t:TellS} {e:Ev} {os:List Ev}:(j8 first last t e os).2.2.flags=t.flags:=zqa os
end Go.Proofs.YtfmldcilgbbimaaGreat.Ax
