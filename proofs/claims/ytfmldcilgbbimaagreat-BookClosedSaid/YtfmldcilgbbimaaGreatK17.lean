/-
  Joined.
-/
import Derived.Test.YtfmldcilgbbimaaGreatK16
set_option linter.unusedSimpArgs false
set_option linter.unusedVariables false
namespace Go.Proofs.YtfmldcilgbbimaaGreat.Ax
open Go Go.Proofs
set_option maxRecDepth 100000
theorem Wga {k:Nat} (h:k<1099511627776):wr (2*(k:Int))=((2*k:Nat):Int):=by rw[zI (by unfold Fit;omega)];omega
theorem Wha {k:Nat} (h:k<1099511627776):wr ((k:Int)*2)=((2*k:Nat):Int):=by rw[zI (by unfold Fit;omega)];omega
theorem dle {a b:Nat} (e:decide ((a:Int)<=(b:Int))=true):a<=b:=by simpa using e
theorem Wia {a b:Nat} (e:decide ((a:Int)<=(b:Int))=false):b<a:=by simpa using e
theorem QO {l:List Ev} {n:Nat} (h:n<=l.length):∃a b,l=a++b/\a.length=n:=⟨l.take n,l.drop n,(List.take_append_drop _ _).symm,by simp;omega⟩
set_option maxHeartbeats 1000000 in
theorem YUa (h:List Ob) (id st n:Nat) (l:List Ev) (v:h[id]? =some (qb l st)) (H:n=l.length) (S:l.length<1099511627776):
  ACalls Tryz.prog 163 [.tl id st,i64 n,.fn (.func 97) [] []] h λr h'=>r= .tup []/\h'=h.set id (qb (zD l) st):=by
 have t:∀o,(h.set id o)[id]? =some o:=λo=>zh v
 refine zf Tryz.f163 [] 63 rfl rfl rfl rfl rfl rfl (by decide) (⟨_,_,⟨rfl,rfl⟩,zC v rfl⟩) λB=>?_
 simp only[go_sem]
 refine zj (by decide) (λk T h'=>∃D R,D++blkE 20 R=blkE 20 l/\D.length+R.length=n/\h'=h.set id (qb (D++R) st)/\T 0= .tl id st/\T 1=i64 n/\T 2= .fn (.func 97) [] []/\T 6=i64 (20:Nat)/\T 7=i64 D.length/\T 8=i64 (D.length+20:Nat)/\k=R.length) l.length
  ⟨[],l,rfl,by simp[H],(zT v).symm,by simp only[go_sem],by simp only[go_sem],by simp only[go_sem],by (simp only[go_sem]<;>rfl),by (simp only[go_sem]<;>rfl),by (simp only[go_sem]<;>rfl),rfl⟩ ?_
 rintro k T h' ⟨D,R,f,m,rfl,t0,t1,t2,t6,j,t8,rfl⟩
 simp only[go_sem,t1,t8]
 refine ways (λe=>?_) (λe=>?_)
 ·have x:=dle e
  obtain ⟨c,d,rfl,g⟩:=QO (l:=R) (n:=20) (by omega)
  simp only[List.length_append] at m
  have s:wr (((D.length+20:Nat):Int)+20)=((D.length+20+20:Nat):Int):=yy (b:=20) (by omega)
  rw[Z7 g (by omega)] at f
  have Q:=qT c
  simp only[go_sem,t0,t2,t6,j,t8]
  refine zc (Wfa _ id st _ _ D c d (t _) rfl (by omega) (by simp;omega)) ?_
  rintro _ E ⟨rfl,i⟩
  subst i
  simp only[go_sem,t8,t6,s,List.set_set]
  exact ⟨d.length,by omega,D++zD c,d,by rw[<-f];simp,by simp;omega,by simp,t0,t1,t2,qN (by simp;omega),qN (by simp;omega),rfl⟩
 ·have q:=Wia e
  have O:R.length<20:=by omega
  rw[yo (by omega)] at f
  simp only[go_sem,t0,t1,t2,j]
  refine zc (Wfa _ id st _ _ D R [] (by rw[t];simp) rfl (by omega) (by simp;omega)) ?_
  rintro _ E ⟨rfl,i⟩
  subst i
  rw[List.append_nil,f]
  simp only[go_sem,List.set_set]
  refine zj (by decide) (λk T h'=>∃a:Nat,0<a/\a<2199023255552/\h'=h.set id (qb (blkE a l) st)/\T 0= .tl id st/\T 1=i64 n/\T 2= .fn (.func 97) [] []/\T 6=i64 a/\k=n - a) (n - 20)
   ⟨20,by omega,by omega,rfl,by simp only[go_sem,t0],by simp only[go_sem,t1],by simp only[go_sem,t2],by simp only[go_sem,t6],rfl⟩ ?_
  clear t0 t1 t2 t6 j t8 f m O q e
  rintro k T h' ⟨a,P,L,rfl,t0,t1,t2,t6,rfl⟩
  simp only[go_sem,t1,t6]
  refine ways (λe=>?_) (λe=>?_)
  ·have J:=dlt e
   have s:=Wga (k:=a) (by omega)
   have F:=Wha (k:=a) (by omega)
   simp only[go_sem,t6,s]
   refine zj (by decide) (λk T h'=>∃D R,D++blkE (2*a) R=blkE (2*a) l/\D.length+R.length=n/\h'=h.set id (qb (D++blkE a R) st)/\T 0= .tl id st/\T 1=i64 n/\T 2= .fn (.func 97) [] []/\T 6=i64 a/\T 7=i64 D.length/\T 8=i64 (D.length+2*a:Nat)/\k=R.length) l.length
    ⟨[],l,rfl,by simp[H],rfl,by simp only[go_sem,t0],by simp only[go_sem,t1],by simp only[go_sem,t2],by simp only[go_sem,t6],by (simp only[go_sem]<;>rfl),by (simp only[go_sem]<;>exact qN (by simp)),rfl⟩ ?_
   clear t0 t1 t2 t6
   rintro k T h' ⟨D,R,f,m,rfl,t0,t1,t2,t6,j,t8,rfl⟩
   simp only[go_sem,t1,t8]
   refine ways (λe=>?_) (λe=>?_)
   ·have x:=dle e
    obtain ⟨c,M,rfl,g⟩:=QO (l:=R) (n:=a) (by omega)
    obtain ⟨d,p,rfl,w⟩:=QO (l:=M) (n:=a) (by simp at m;omega)
    simp only[List.length_append] at m
    have u:wr (((D.length:Nat):Int)+(a:Int))=((D.length+a:Nat):Int):=yy (by omega)
    have K:wr (((D.length+2*a:Nat):Int)+((2*a:Nat):Int))=((D.length+2*a+2*a:Nat):Int):=yy (by omega)
    have N:blkE (2*a) (c++(d++p))=zD (c++d)++blkE (2*a) p:=by
     rw[<-List.append_assoc,Z7 (by simp;omega) (by omega)]
    rw[N] at f
    rw[Z7 g (by omega),Z7 w (by omega)]
    have y:=qT c
    have C:=qT d
    have z:=qT (c++d)
    simp only[List.length_append] at z
    have I:=Zga a p
    simp only[go_sem,t0,t2,t6,j,t8,u]
    refine zc (Jla _ _ id st _ _ _ D (zD c) (zD d) (blkE a p) (t _) rfl (by omega) (by omega) (by omega) (by omega) (jW _) (jW _) (by omega) (Nat.le_refl _)) ?_
    rintro _ E ⟨rfl,i⟩
    subst i
    rw[Zh]
    simp only[go_sem,t8,t6,s,K,List.set_set]
    exact ⟨p.length,by omega,D++zD (c++d),p,by rw[<-f];simp,by simp;omega,by simp,t0,t1,t2,qN (by simp;omega),qN (by simp;omega),rfl⟩
   ·have q:=Wia e
    have u:wr (((D.length:Nat):Int)+(a:Int))=((D.length+a:Nat):Int):=yy (by omega)
    simp only[go_sem,t1,t6,j,u]
    refine ways (λe=>?_) (λe=>?_)
    ·have G:=dlt e
     obtain ⟨c,d,rfl,g⟩:=QO (l:=R) (n:=a) (by omega)
     simp only[List.length_append] at m
     rw[Z7 g (by omega),yo (by omega)]
     rw[yo (by simp;omega), <-Zh] at f
     have y:=qT c
     have C:=qT d
     simp only[go_sem,t0,t1,t2,t6,j]
     refine zc (Jla _ _ id st _ _ _ D (zD c) (zD d) [] (by rw[t];simp) rfl (by omega) (by omega) (by omega) (by omega) (jW _) (jW _) (by simp;omega) (Nat.le_refl _)) ?_
     rintro _ E ⟨rfl,i⟩
     subst i
     rw[List.append_nil,f]
     simp only[go_sem,t6,F,List.set_set]
     exact ⟨n - 2*a,by omega,2*a,by omega,by omega,rfl,t0,t1,t2,rfl,rfl⟩
    ·have A:=qU e
     rw[yo (by omega)]
     rw[yo (by omega)] at f
     rw[f]
     simp only[go_sem,t6,F]
     exact ⟨n - 2*a,by omega,2*a,by omega,by omega,rfl,t0,t1,t2,rfl,rfl⟩
  ·have A:=qU e
   rw[yo (by omega)]
   simp only[go_sem]
   exact ⟨.tup [],by simp only[go_sem],.inl ⟨rfl,rfl⟩⟩
theorem wK {h:List Ob} {x:AV} {r:List AV} {rs:List (List AV)} (b:zq h x=some (r::rs)):(∃e xs,x= .sl e xs)∨(∃i s,x= .tl i s)∨(∃a e i n,x= .vw a e i n):=by
 cases x with
 | sl e xs=>exact .inl ⟨_,_,rfl⟩
 | tl i s=>exact .inr (.inl ⟨_,_,rfl⟩)
 | vw a e i n=>exact .inr (.inr ⟨_,_,_,_,rfl⟩)
 | v x=>
   unfold zq at b
   split at b<;>rename_i heq<;>first
    | (cases heq;done)
    | (injection heq with heq;subst heq;injection b with b;cases b)
    | cases b
 | em=>injection b with b;cases b
 | _=>cases b
theorem Kva (l:List Ev):((l.map evC).all λr=>r.length==11 && r.all AV.one)=true:=by
 rw[List.all_eq_true]
 intro r a
 obtain ⟨e,_,rfl⟩:=List.mem_map.1 a
 rfl
theorem Wja (x f:AV):ji Tryz.prog 215 [x,i64 0,i64 0,f] (.tup []):=λh=>by
 refine zf Tryz.f215 [] 53 rfl rfl rfl rfl rfl rfl (by decide) (⟨_,_,⟨rfl,rfl⟩,.refl⟩) λB=>?_
 simp only[go_sem]
 refine vr 1 (jf (by decide) ?_)
 simp only[go_sem]
 (first | refine zd ?_ | refine ze ?_ (by rfl))<;>(simp only[go_sem]<;>try rfl)
theorem Wka (x f:AV):ji Tryz.prog 163 [x,i64 0,f] (.tup []):=λh=>by
 refine zf Tryz.f163 [] 63 rfl rfl rfl rfl rfl rfl (by decide) (⟨_,_,⟨rfl,rfl⟩,.refl⟩) λB=>?_
 simp only[go_sem]
 refine vr 1 (jf (by decide) ?_)
 simp only[go_sem]
 refine zc (Wja _ _ _) ?_
 rintro _ b ⟨rfl,a⟩
 subst a
 simp only[go_sem]
 refine vr 1 (jf (by decide) ?_)
 simp only[go_sem]
 (first | refine zd ?_ | refine ze ?_ (by rfl))<;>(simp only[go_sem]<;>try rfl)
theorem c88 (h:List Ob) (id st:Nat) (l:List Ev) (a:h[id]? =some (qb l st)) (c:l.length<1099511627776):
  ACalls Tryz.prog 99 [.tl id st,.fn (.func 97) [] []] h λr h'=>r= .tup []/\h'=h.set id (qb (zD l) st):=by
 refine zf Tryz.f99 [] 9 rfl rfl rfl rfl rfl rfl (by decide) (⟨_,_,⟨rfl,rfl⟩,zC a rfl⟩) λB=>?_
 simp only[go_sem,a,List.length_map]
 refine zc (YUa _ id st _ l a rfl c) ?_
 rintro _ d ⟨rfl,b⟩
 subst b
 simp only[go_sem]
 exact ⟨.tup [],by simp only[go_sem],.inl ⟨rfl,rfl⟩⟩
theorem YVa (f:AV):ji Tryz.prog 99 [.v (.slice none 0 0),f] (.tup []):=λh=>by
 refine zf Tryz.f99 [] 9 rfl rfl rfl rfl rfl rfl (by decide) (⟨_,_,⟨rfl,rfl⟩,.refl⟩) λB=>?_
 simp only[go_sem]
 refine zc (Wka _ _ _) ?_
 rintro _ b ⟨rfl,a⟩
 subst a
 simp only[go_sem]
 (first | refine zd ?_ | refine ze ?_ (by rfl))<;>(simp only[go_sem]<;>try rfl)
theorem c87 (h:List Ob) (x:AV) (l:List Ev) (d:SlOf h x 11 (l.map evC)) (t:l.length<1099511627776):
  ACalls Tryz.prog 87 [x] h λr h'=>(l=[]/\h'=h/\r= .v (.slice none 0 0))∨(h'=h++[qb l 1]/\r= .tl h.length 1):=by
 refine jm (N:=8) (rs:=[.tmp 2]) (fn:=Tryz.f87) rfl rfl rfl rfl (Nat.le_of_ble_eq_true rfl) rfl (⟨_,_,.inr ⟨rfl,rfl⟩,zR⟩) λB=>?_
 cases l with
 | nil=>
   refine Zb 0 rfl d.rows (λm=>?_) ?_
   ·refine zL _ (by decide) ?_;simp only[go_sem]
    exact ⟨.v (.slice none 0 0),by simp only[go_sem],.inl (.inl ⟨rfl,rfl⟩)⟩
   ·refine zL _ (by decide) ?_;simp only[go_sem]
    exact ⟨.tl h.length 1,by simp only[go_sem],.inl (.inr ⟨rfl,rfl⟩)⟩
 | cons y l=>
   have q:=d.at (i:=0) (by simp)
   have f:=d.rows
   have o:xA x=false:=by
    rcases wK f with ⟨e,xs,rfl⟩ | ⟨i,s,rfl⟩ | ⟨a,e,i,n,rfl⟩<;>rfl
   unfold xA at o
   have b:∀L,zq (h++L) x=some ((y::l).map evC):=λL=>(d.app L).rows
   have j:=Kva (y::l)
   have g:((y::l).map evC).length*89<=140737488355328:=by rw[List.length_map];omega
   obtain ⟨L,k⟩:∃L,L=(y::l).map evC:=⟨_,rfl⟩
   rw[<-k] at f b j g
   obtain ⟨r,p,c⟩:∃r p,L=r::p:=⟨_,_,k⟩
   rw[c] at f b j g
   rw[List.length_cons] at g
   refine zL _ (by decide) ?_;simp only[go_sem,f,q,o,b,j,g,Bool.or_true,decide_true]
   refine ⟨.tl h.length 1,by simp only[go_sem],.inl (.inr ⟨?_,rfl⟩)⟩
   rw[<-c,k]
theorem c57 (h:List Ob) (x:AV) (l:List Ev) (d:SlOf h x 11 (l.map evC)) (b:l.length<1099511627776):
  ACalls Tryz.prog 49 [x] h λr h'=>(l=[]/\h'=h/\r= .v (.slice none 0 0))∨(h'=h++[qb (zD l) 1]/\r= .tl h.length 1):=by
 refine zf Tryz.f49 [.tmp 2] 9 rfl rfl rfl rfl rfl rfl (by decide) (⟨_,_,.inr ⟨rfl,rfl⟩,zR⟩) λB=>?_
 simp only[go_sem]
 refine zc (c87 h x l d b) ?_
 rintro _ f (⟨rfl,rfl,rfl⟩ | ⟨rfl,rfl⟩)
 ·simp only[go_sem]
  refine zc (YVa _ _) ?_
  rintro _ c ⟨rfl,a⟩
  subst a
  simp only[go_sem]
  exact ⟨.v (.slice none 0 0),by simp only[go_sem],.inl (.inl ⟨rfl,rfl⟩)⟩
 ·have e:(h++[qb l 1])[h.length]? =some (qb l 1):=by simp
  simp only[go_sem]
  refine zc (c88 _ _ _ l e b) ?_
  rintro _ c ⟨rfl,a⟩
  subst a
  simp only[go_sem]
  refine ⟨.tl h.length 1,by simp only[go_sem],.inl (.inr ⟨?_,rfl⟩)⟩
  simp
def NoRes (L:List Ob):Prop:=∀o∈L,o.isRes=false
def Pre (h0 h:List Ob):Prop:=∃L,h=h0++L/\NoRes L
theorem Pre.refl {h:List Ob}:Pre h h:=⟨[],by simp,λ_ h=>by cases h⟩
theorem Pre.app {h0 h M:List Ob} (k:Pre h0 h) (b:NoRes M):Pre h0 (h++M):=by
 obtain ⟨L,rfl,c⟩:=k
 refine ⟨L++M,by simp,λo a=>?_⟩
 rcases List.mem_append.1 a with a | a
 ·exact c o a
 ·exact b o a
theorem Pre.set {h0 h:List Ob} {i:Nat} {o:Ob} (k:Pre h0 h) (d:h0.length<=i) (c:o.isRes=false):Pre h0 (h.set i o):=by
 obtain ⟨L,rfl,b⟩:=k
 refine ⟨L.set (i - h0.length) o,by rw[List.set_append_right _ _ d],λx a=>?_⟩
 rcases List.mem_or_eq_of_mem_set a with a | a
 ·exact b x a
 ·rw[a];exact c
theorem Pre.resK {h0 h h':List Ob} (k:Pre h0 h) (k':Pre h0 h'):ResK h h':=by
 obtain ⟨L,rfl,c⟩:=k
 obtain ⟨d,rfl,_⟩:=k'
 intro i a
 rcases Nat.lt_or_ge i h0.length with b | b
 ·rw[List.getElem?_append_left b] at a⊢
  exact a
 ·rw[List.getElem?_append_right b] at a
  have:=c _ (List.mem_of_getElem? a)
  cases this
theorem Pre.sin {h0 h:List Ob} (k:Pre h0 h) {s:Setup} {a:SA} (q:SIn h0 s a):SIn h s a:=by
 obtain ⟨L,rfl,_⟩:=k
 exact q.app L
theorem Pre.sl {h0 h:List Ob} (k:Pre h0 h) {x:AV} {e:Nat} {rows:List (List AV)} (q:SlOf h0 x e rows):SlOf h x e rows:=by
 obtain ⟨L,rfl,_⟩:=k
 exact q.app L
theorem Pre.len {h0 h:List Ob} (k:Pre h0 h):h0.length<=h.length:=by
 obtain ⟨L,rfl,_⟩:=k
 simp
theorem Pre.trans {h0 h h':List Ob} (k:Pre h0 h) (k':Pre h h'):Pre h0 h':=by
 obtain ⟨L,rfl,a⟩:=k'
 exact k.app a
theorem zi {o:Ob} (h:o.isRes=false):NoRes [o]:=λx a=>by rw[List.mem_singleton.1 a];exact h
theorem qh:NoRes []:=λ_ h=>by cases h
theorem zg {o:Ob} {L:List Ob} (h:o.isRes=false) (k:NoRes L):NoRes (o::L):=λx a=>by
 rcases List.mem_cons.1 a with rfl | a
 ·exact h
 ·exact k x a
def OwnS (h0 h:List Ob) (ty e:Nat) (x:AV) (rows:List (List AV)):Prop:=(x= .v (.slice none 0 0)/\rows=[])∨∃id st,h0.length<=id/\x= .tl id st/\h[id]? =some (.row ty e rows st)
theorem OwnS.app {h0 h:List Ob} {ty e:Nat} {x:AV} {rows:List (List AV)} (k:OwnS h0 h ty e x rows) (M:List Ob):OwnS h0 (h++M) ty e x rows:=by
 rcases k with k | ⟨id,st,k1,k2,k3⟩
 ·exact .inl k
 ·exact .inr ⟨id,st,k1,k2,zb k3⟩
theorem OwnS.set_box {h0 h:List Ob} {ty e:Nat} {x:AV} {rows:List (List AV)} (k:OwnS h0 h ty e x rows) {i t:Nat} {cs:List AV} (a:h[i]? =some (.box t cs)) (o:Ob):OwnS h0 (h.set i o) ty e x rows:=by
 rcases k with k | ⟨id,st,k1,k2,k3⟩
 ·exact .inl k
 ·refine .inr ⟨id,st,k1,k2,?_⟩
  have:i≠id:=λq=>by rw[q,k3] at a;cases a
  rw[List.getElem?_set_ne this]
  exact k3
theorem OwnS.set_row {h0 h:List Ob} {ty e:Nat} {x:AV} {rows:List (List AV)} (k:OwnS h0 h ty e x rows) {i t c s:Nat} {xs:List (List AV)} (a:h[i]? =some (.row t c xs s)) (b:ty≠t) (o:Ob):OwnS h0 (h.set i o) ty e x rows:=by
 rcases k with k | ⟨id,st,k1,k2,k3⟩
 ·exact .inl k
 ·refine .inr ⟨id,st,k1,k2,?_⟩
  have:i≠id:=λq=>by rw[q,k3] at a;injection a with a;injection a with h1;exact b h1
  rw[List.getElem?_set_ne this]
  exact k3
theorem OwnS.rows {h0 h:List Ob} {ty e:Nat} {x:AV} {rows:List (List AV)} (k:OwnS h0 h ty e x rows):SlOf h x e rows:=by
 rcases k with ⟨rfl,rfl⟩ | ⟨id,st,_,rfl,k3⟩
 ·exact ⟨rfl,λh=>absurd rfl h⟩
 ·refine ⟨?_,λ_=>?_⟩
  ·rw[zX,k3,jV,if_pos rfl]
  ·rw[qE,k3,km]
structure Seg where
 from_:Int
 to_:Int
 kind:Int
 id:Int
 code:Int
abbrev jo (g:Seg):List AV:=[i64 g.from_,i64 g.to_,i64 g.kind,i64 g.id,i64 g.code]
structure Flg where
 id:Int
 kind:Int
abbrev xv (f:Flg):List AV:=[i64 f.id,i64 f.kind]
structure TellS where
 open_:Option (Ev × List Ev)
 segs:List Seg
 flags:List Flg
abbrev qQa (e:Ev) (o:AV):List AV:=evC e++[o]
abbrev vh (s:Setup) (a:SA) (p x y:AV):List AV:=zr s a++[p,x,y]
def OpenIn (h0 h:List Ob) (p:AV):Option (Ev × List Ev)->Prop
 | none=>p= .v (.pointer none)
 | some (e,os)=>∃j o,h0.length<=j/\p= .ptr j 0/\h[j]? =some (.box 216 (qQa e o))/\OwnS h0 h 73 11 o (os.map evC)
theorem OpenIn.app {h0 h:List Ob} {p:AV}:∀ {t:Option (Ev × List Ev)},OpenIn h0 h p t->∀M,OpenIn h0 (h++M) p t
 | none,k,_=>k
 | some (e,os),⟨j,o,k1,k2,k3,k4⟩,M=>⟨j,o,k1,k2,zb k3,k4.app M⟩
theorem OpenIn.set_box {h0 h:List Ob} {p:AV}:∀ {t:Option (Ev × List Ev)},OpenIn h0 h p t->∀ {i ty:Nat} {cs:List AV},h[i]? =some (.box ty cs)->ty≠216->∀o,OpenIn h0 (h.set i o) p t
 | none,k,_,_,_,_,_,_=>k
 | some (e,os),⟨j,x,k1,k2,k3,k4⟩,i,ty,cs,a,b,o=>⟨j,x,k1,k2,by
   have:i≠j:=λq=>by rw[q,k3] at a;injection a with a;injection a with h1;exact b h1.symm
   rw[List.getElem?_set_ne this];exact k3,k4.set_box a o⟩
theorem OpenIn.set_row {h0 h:List Ob} {p:AV}:∀ {t:Option (Ev × List Ev)},OpenIn h0 h p t->∀ {i ty e s:Nat} {xs:List (List AV)},h[i]? =some (.row ty e xs s)->ty≠73->∀o,OpenIn h0 (h.set i o) p t
 | none,k,_,_,_,_,_,_,_,_=>k
 | some (e,os),⟨j,x,k1,k2,k3,k4⟩,i,ty,c,s,xs,a,b,o=>⟨j,x,k1,k2,by
   have:i≠j:=λq=>by rw[q,k3] at a;cases a
   rw[List.getElem?_set_ne this];exact k3,k4.set_row a (Ne.symm b) o⟩
def Kept (F:List (Nat × List AV)) (h:List Ob):Prop:=∀z∈F,h[z.1]? =some (.box 73 z.2)
theorem Kept.app {F:List (Nat × List AV)} {h:List Ob} (k:Kept F h) (M:List Ob):Kept F (h++M):=λz a=>zb (k z a)
theorem Kept.set_box {F:List (Nat × List AV)} {h:List Ob} (k:Kept F h) {i ty:Nat} {cs:List AV} (a:h[i]? =some (.box ty cs)) (c:ty≠73) (o:Ob):Kept F (h.set i o):=λz d=>by
 have:=k z d
 have b:i≠z.1:=λq=>by rw[q,this] at a;injection a with a;injection a with a;exact c a.symm
 rw[List.getElem?_set_ne b]
 exact this
theorem Kept.set_row {F:List (Nat × List AV)} {h:List Ob} (k:Kept F h) {i ty e st:Nat} {xs:List (List AV)} (b:h[i]? =some (.row ty e xs st)) (o:Ob):Kept F (h.set i o):=λz c=>by
 have:=k z c
 have a:i≠z.1:=λq=>by rw[q,this] at b;cases b
 rw[List.getElem?_set_ne a]
 exact this
theorem Kept.set_ne {F:List (Nat × List AV)} {h:List Ob} (k:Kept F h) {i:Nat} (b:∀z∈F,z.1≠i) (o:Ob):Kept F (h.set i o):=λz a=>by
 rw[List.getElem?_set_ne (Ne.symm (b z a))]
 exact k z a
structure TellIn (F:List (Nat × List AV)) (h0 h:List Ob) (i:Nat) (s:Setup) (a:SA) (t:TellS):Prop where
 pre:Pre h0 h
 le:h0.length<=i
 kept:Kept F h
 at_:∃p x y,h[i]? =some (.box 129 (vh s a p x y))/\OwnS h0 h 137 5 x (t.segs.map jo)/\OwnS h0 h 97 2 y (t.flags.map xv)/\OpenIn h0 h p t.open_
theorem TellIn.app {F:List (Nat × List AV)} {h0 h M:List Ob} {i:Nat} {s:Setup} {a:SA} {t:TellS} (k:TellIn F h0 h i s a t) (b:NoRes M):TellIn F h0 (h++M) i s a t:=by
 obtain ⟨k1,k2,c,p,x,y,k3,k4,k5,k6⟩:=k
 exact ⟨k1.app b,k2,c.app M,p,x,y,zb k3,k4.app M,k5.app M,k6.app M⟩
def js (t:TellS) (e:Ev) (k:Int):TellS:=⟨t.open_,t.segs,t.flags++[⟨e.id,k⟩]⟩
theorem zm {α:Type} {l M:List α} {n k:Nat} (a:n=l.length):(l++M)[n+k]? =M[k]? :=by
 rw[List.getElem?_append_right (by omega),show n+k - l.length=k by omega]
theorem zo {α:Type} {l M:List α} {n:Nat} (a:n=l.length):(l++M)[n]? =M[0]? :=zm (k:=0) a
theorem TellIn.any {F:List (Nat × List AV)} {h0 h:List Ob} {i:Nat} {s:Setup} {a:SA} {t:TellS} (k:TellIn F h0 h i s a t) (b:TellS):∃g x' y' M,NoRes M/\TellIn F h0 (h.set i (.box 129 (vh s a g x' y'))++M) i s a b:=by
 obtain ⟨k1,k2,f,p,x,y,k3,k4,k5,k6⟩:=k
 have d:=k1.len
 have j:i<h.length:=by
  rcases Nat.lt_or_ge i h.length with q | q
  ·exact q
  ·rw[List.getElem?_eq_none q] at k3;cases k3
 cases c:b.open_ with
 | none=>
   refine ⟨.v (.pointer none),.tl (h.length+0) 0,.tl (h.length+1) 0,[.row 137 5 (b.segs.map jo) 0,.row 97 2 (b.flags.map xv) 0],zg rfl (zi rfl),(k1.set k2 rfl).app (zg rfl (zi rfl)),k2,(f.set_box k3 (by decide) _).app _,_,_,_,zb (zh k3),.inr ⟨_,0,?_,rfl,?_⟩,.inr ⟨_,0,?_,rfl,?_⟩,?_⟩
   ·omega
   ·rw[zm (by simp)];rfl
   ·omega
   ·rw[zm (by simp)];rfl
   ·rw[c];rfl
 | some q=>
   obtain ⟨e,os⟩:=q
   refine ⟨.ptr (h.length+3) 0,.tl (h.length+0) 0,.tl (h.length+1) 0,[.row 137 5 (b.segs.map jo) 0,.row 97 2 (b.flags.map xv) 0,.row 73 11 (os.map evC) 0,.box 216 (qQa e (.tl (h.length+2) 0))],zg rfl (zg rfl (zg rfl (zi rfl))),(k1.set k2 rfl).app (zg rfl (zg rfl (zg rfl (zi rfl)))),k2,(f.set_box k3 (by decide) _).app _,_,_,_,zb (zh k3),.inr ⟨_,0,?_,rfl,?_⟩,.inr ⟨_,0,?_,rfl,?_⟩,?_⟩
   ·omega
   ·rw[zm (by simp)];rfl
   ·omega
   ·rw[zm (by simp)];rfl
   ·rw[c]
    refine ⟨h.length+3,.tl (h.length+2) 0,?_,rfl,?_,.inr ⟨h.length+2,0,?_,rfl,?_⟩⟩
    ·omega
    ·rw[zm (by simp)];rfl
    ·omega
    ·rw[zm (by simp)];rfl
def Z8 (k:Int):Int:=if k=3 then 1 else if k=4 then 2 else if k=5 then 3 else 0
def toP (first last to_:Int):Int:=max first (min to_ last)
def va (t:TellS) (a to_:Int) (e:Ev):TellS:=if a<to_ then ⟨t.open_,t.segs++[⟨a,to_,Z8 e.kind,e.id,e.code⟩],t.flags⟩ else t
theorem TellIn.keep {F:List (Nat × List AV)} {h0 h:List Ob} {i:Nat} {s:Setup} {a:SA} {t:TellS} (k:TellIn F h0 h i s a t) (e:Ev):TellIn ((h.length,evC e)::F) h0 (h++[.box 73 (evC e)]) i s a t:=by
 have q:=k.app (M:=[.box 73 (evC e)]) (zi rfl)
 refine ⟨q.pre,q.le,λz b=>?_,q.at_⟩
 rcases List.mem_cons.1 b with rfl | b
 ·rw[zo rfl];rfl
 ·exact q.kept z b
theorem TellIn.drop {z:Nat × List AV} {F:List (Nat × List AV)} {h0 h:List Ob} {i:Nat} {s:Setup} {a:SA} {t:TellS} (k:TellIn (z::F) h0 h i s a t):TellIn F h0 h i s a t:=⟨k.pre,k.le,λy b=>k.kept y (List.mem_cons_of_mem _ b),k.at_⟩
theorem TellIn.gone {F:List (Nat × List AV)} {h0 h:List Ob} {i id e st:Nat} {xs:List (List AV)} {s:Setup} {a:SA} {t:TellS} (k:TellIn F h0 h i s a t) (b:h[id]? =some (.row 73 e xs st)) (d:h0.length<=id) (f:t.open_=none):TellIn F h0 (h.set id .gone) i s a t:=by
 obtain ⟨k1,k2,g,p,x,y,k3,k4,k5,k6⟩:=k
 have c:id≠i:=λq=>by rw[q,k3] at b;cases b
 rw[f] at k6
 refine ⟨k1.set d rfl,k2,g.set_row b _,p,x,y,by rw[List.getElem?_set_ne c];exact k3,k4.set_row b (by decide) _,k5.set_row b (by decide) _,?_⟩
 rw[f]
 exact k6
structure PartIn (F:List (Nat × List AV)) (h0 h:List Ob) (i nf nl nb nt nq:Nat) (s:Setup) (a:SA) (ow:AV) (ows:List (List AV)) (first last begin_:Int) (by_:Ev) (t:TellS):Prop where
 n1:nf≠nb
 n2:nl≠nb
 n3:h0.length<=nb
 n4:h0.length<=nq
 n5:∀z∈F,z.1≠nq
 b1:h[nf]? =some (.box 3 [i64 first])
 b2:h[nl]? =some (.box 3 [i64 last])
 b3:h[nb]? =some (.box 3 [i64 begin_])
 b4:h[nt]? =some (.box 126 [.ptr i 0])
 b5:h[nq]? =some (.box 73 (evC by_))
 t:TellIn F h0 h i s a t
 b6:OwnS h0 h 73 11 ow ows
theorem TellIn.ex {F:List (Nat × List AV)} {h0 h:List Ob} {i:Nat} {s:Setup} {a:SA} {t:TellS} (k:TellIn F h0 h i s a t) (b:TellS):∃r h',(r=AV.tup []/\TellIn F h0 h' i s a b)/\ResK h h':=by
 obtain ⟨c,x',y',M,_,q⟩:=k.any b
 exact ⟨_,_,⟨rfl,q⟩,k.pre.resK q.pre⟩
theorem TellIn.set_box {F:List (Nat × List AV)} {h0 h:List Ob} {i k ty:Nat} {s:Setup} {a:SA} {t:TellS} {cs:List AV} {o:Ob} (q:TellIn F h0 h i s a t) (b:h[k]? =some (.box ty cs)) (j:ty≠129) (e:ty≠216) (d:h0.length<=k) (f:o.isRes=false) (g:Kept F (h.set k o)):TellIn F h0 (h.set k o) i s a t:=by
 obtain ⟨k1,k2,l,p,x,y,k3,k4,k5,k6⟩:=q
 have c:k≠i:=λq=>by rw[q,k3] at b;injection b with b;injection b with b;exact j b.symm
 exact ⟨k1.set d f,k2,g,p,x,y,by rw[List.getElem?_set_ne c];exact k3,k4.set_box b o,k5.set_box b o,k6.set_box b e o⟩
theorem xD {h:List Ob} {i j t u:Nat} {cs ds:List AV} (a:h[i]? =some (.box t cs)) (c:h[j]? =some (.box u ds)) (b:t≠u):i≠j:=λq=>by
 rw[q,c] at a;injection a with a;injection a with a;exact b a.symm
theorem PartIn.next {F:List (Nat × List AV)} {h0 h:List Ob} {i l nl g nt f:Nat} {s:Setup} {a:SA} {n:AV} {d:List (List AV)} {first last b:Int} {e:Ev} {t:TellS} (k:PartIn F h0 h i l nl g nt f s a n d first last b e t) (j:Int) (o:Ev):
  PartIn F h0 ((h.set g (.box 3 [i64 j])).set f (.box 73 (evC o))) i l nl g nt f s a n d first last j o t:=by
 have q:=xD k.b5 k.b1 (by decide)
 have r:=xD k.b5 k.b2 (by decide)
 have m:=xD k.b5 k.b3 (by decide)
 have u:=xD k.b5 k.b4 (by decide)
 have p:=xD k.b3 k.b4 (by decide)
 have c:(h.set g (.box 3 [i64 j]))[f]? =some (.box 73 (evC e)):=by rw[List.getElem?_set_ne (Ne.symm m)];exact k.b5
 refine ⟨k.n1,k.n2,k.n3,k.n4,k.n5,?_,?_,?_,?_,zh c,(k.t.set_box k.b3 (by decide) (by decide) k.n3 rfl (k.t.kept.set_box k.b3 (by decide) _)).set_box c (by decide) (by decide) k.n4 rfl ((k.t.kept.set_box k.b3 (by decide) _).set_ne k.n5 _),(k.b6.set_box k.b3 _).set_box c _⟩
 ·rw[List.getElem?_set_ne q,List.getElem?_set_ne (Ne.symm k.n1)];exact k.b1
 ·rw[List.getElem?_set_ne r,List.getElem?_set_ne (Ne.symm k.n2)];exact k.b2
 ·rw[List.getElem?_set_ne m];exact zh k.b3
 ·rw[List.getElem?_set_ne u,List.getElem?_set_ne p];exact k.b4
theorem PartIn.tell {F:List (Nat × List AV)} {h0 h:List Ob} {i l nl m nt f:Nat} {s:Setup} {a:SA} {n:AV} {c:List (List AV)} {first last b:Int} {d:Ev} {t r:TellS} {cs:List AV} {M:List Ob} (k:PartIn F h0 h i l nl m nt f s a n c first last b d t) (q:TellIn F h0 (h.set i (.box 129 cs)++M) i s a r):
  PartIn F h0 (h.set i (.box 129 cs)++M) i l nl m nt f s a n c first last b d r:=by
 obtain ⟨p,x,y,k3,_⟩:=k.t.at_
 have v:=xD k3 k.b1 (by decide)
 have z:=xD k3 k.b2 (by decide)
 have w:=xD k3 k.b3 (by decide)
 have B:=xD k3 k.b4 (by decide)
 have u:=xD k3 k.b5 (by decide)
 have g:∀ {j:Nat} {o:Ob},i≠j->h[j]? =some o->(h.set i (.box 129 cs)++M)[j]? =some o:=λe A=>zb (by rw[List.getElem?_set_ne e];exact A)
 exact ⟨k.n1,k.n2,k.n3,k.n4,k.n5,g v k.b1,g z k.b2,g w k.b3,g B k.b4,g u k.b5,q,(k.b6.set_box k3 _).app _⟩
theorem PartIn.tell2 {F:List (Nat × List AV)} {h0 h:List Ob} {i o nl u nt n id ty e st:Nat} {xs:List (List AV)} {r:Ob} {s:Setup} {a:SA} {v:AV} {c:List (List AV)} {first last b:Int} {f:Ev} {t w:TellS} {cs:List AV} {M:List Ob} (k:PartIn F h0 h i o nl u nt n s a v c first last b f t) (d:h[id]? =some (.row ty e xs st)) (A:73≠ty) (q:TellIn F h0 ((h.set id r).set i (.box 129 cs)++M) i s a w):
  PartIn F h0 ((h.set id r).set i (.box 129 cs)++M) i o nl u nt n s a v c first last b f w:=by
 obtain ⟨p,x,y,k3,_⟩:=k.t.at_
 have B:=xD k3 k.b1 (by decide)
 have D:=xD k3 k.b2 (by decide)
 have C:=xD k3 k.b3 (by decide)
 have E:=xD k3 k.b4 (by decide)
 have z:=xD k3 k.b5 (by decide)
 have g:∀ {j t:Nat} {ds:List AV},i≠j->h[j]? =some (.box t ds)->((h.set id r).set i (.box 129 cs)++M)[j]? =some (.box t ds):=λm l=>zb (by
  have:∀ {j t:Nat} {ds:List AV},h[j]? =some (.box t ds)->id≠j:=λl q=>by rw[q,l] at d;cases d
  rw[List.getElem?_set_ne m,List.getElem?_set_ne (this l)];exact l)
 exact ⟨k.n1,k.n2,k.n3,k.n4,k.n5,g B k.b1,g D k.b2,g C k.b3,g E k.b4,g z k.b5,q,((k.b6.set_row d A _).set_box (show (h.set id r)[i]? =some (.box 129 (vh s a p x y)) by rw[List.getElem?_set_ne (λq=>by rw[q,k3] at d;cases d)];exact k3) _).app _⟩
theorem PartIn.pre {F:List (Nat × List AV)} {h0 h:List Ob} {i f nl g nt e:Nat} {s:Setup} {a:SA} {j:AV} {c:List (List AV)} {first last b:Int} {d:Ev} {t:TellS} (k:PartIn F h0 h i f nl g nt e s a j c first last b d t):Pre h0 h:=k.t.pre
theorem PartIn.app {F:List (Nat × List AV)} {h0 h M:List Ob} {i f nl g nt e:Nat} {s:Setup} {a:SA} {j:AV} {c:List (List AV)} {first last b:Int} {d:Ev} {t:TellS} (k:PartIn F h0 h i f nl g nt e s a j c first last b d t) (l:NoRes M):PartIn F h0 (h++M) i f nl g nt e s a j c first last b d t:=
 ⟨k.n1,k.n2,k.n3,k.n4,k.n5,zb k.b1,zb k.b2,zb k.b3,zb k.b4,zb k.b5,k.t.app l,k.b6.app M⟩
theorem PartIn.any {F:List (Nat × List AV)} {h0 h:List Ob} {i f nl g nt e:Nat} {s:Setup} {a:SA} {l:AV} {c:List (List AV)} {first last b:Int} {d:Ev} {t:TellS} (k:PartIn F h0 h i f nl g nt e s a l c first last b d t) (j:Int) (n:Ev) (m:TellS):
  ∃r h',(r=AV.tup []/\PartIn F h0 h' i f nl g nt e s a l c first last j n m)/\ResK h h':=by
 have k2:=k.next j n
 obtain ⟨o,x',y',M,_,q⟩:=k2.t.any m
 have k3:=k2.tell q
 exact ⟨_,_,⟨rfl,k3⟩,k.pre.resK k3.pre⟩
def kN (first last:Int) (z:Int × Ev × TellS) (x:Ev):Int × Ev × TellS:=(toP first last x.at_,x,va z.2.2 z.1 (toP first last x.at_) z.2.1)
theorem Kw {t:TellS} {b to_:Int} {e:Ev}:(va t b to_ e).flags=t.flags:=by unfold va;split<;>rfl
theorem Yw {t:TellS} {b to_:Int} {e:Ev}:(va t b to_ e).segs.length<=t.segs.length+1:=by unfold va;split<;>simp
theorem XM {first last:Int} (os:List Ev):∀ {z:Int × Ev × TellS},(os.foldl (kN first last) z).2.2.segs.length<=z.2.2.segs.length+os.length:=by
 induction os with
 | nil=>intro z;simp
 | cons x os c=>
   intro z
   rw[List.foldl_cons]
   have a:=c (z:=kN first last z x)
   have f:=Yw (t:=z.2.2) (b:=z.1) (to_:=toP first last x.at_) (e:=z.2.1)
   have d:(kN first last z x).2.2=va z.2.2 z.1 (toP first last x.at_) z.2.1:=rfl
   rw[d] at a
   rw[List.length_cons]
   omega
def xT (first last:Int) (t:TellS) (e:Ev) (os:List Ev):Int × Ev × TellS:=os.foldl (kN first last) (first,e,t)
def kO (first last:Int) (t:TellS) (e:Ev) (os:List Ev):TellS:=va (xT first last t e os).2.2 (xT first last t e os).1 (toP first last last) (xT first last t e os).2.1
theorem xHa {first last:Int} (os:List Ev):∀ {z:Int × Ev × TellS},(os.foldl (kN first last) z).2.2.flags=z.2.2.flags:=by
 induction os with
 | nil=>intro z;rfl
 | cons x os a=>
   intro z
   rw[List.foldl_cons,a]
   exact Kw
theorem qRa {first last:Int} {t:TellS} {e:Ev} {os:List Ev}:(xT first last t e os).2.2.flags=t.flags:=xHa os
end Go.Proofs.YtfmldcilgbbimaaGreat.Ax
