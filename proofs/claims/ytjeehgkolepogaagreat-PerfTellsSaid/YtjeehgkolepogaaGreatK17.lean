import Derived.Test.YtjeehgkolepogaaGreatK16
set_option linter.all false
namespace Go.Proofs.YtjeehgkolepogaaGreat.Ax
open Go Go.Proofs
set_option maxRecDepth 100000
def wva{k:Nat}(h:k<1099511627776):wr (2*(k:Int))=((2*k:Nat):Int):=by rw[qb qg];omega
def wwa{k:Nat}(h:k<1099511627776):wr ((k:Int)*2)=((2*k:Nat):Int):=by rw[qb qg];omega
def dle{a b:Nat}(e:decide ((a:Int)<=(b:Int))=true):a<=b:=by simpa using e
def wxa{a b:Nat}(e:decide ((a:Int)<=(b:Int))=false):b<a:=by simpa using e
def Zh{l:List Ev}{n:Nat}(h:n<=l.length):∃a b,l=a++b/\a.length=n:=⟨l.take n,l.drop n,(qc _ _).symm,zE⟩
set_option maxHeartbeats 1000000 in
def c107(h:List Ob)(id st n:Nat)(l:List Ev)(hi:h[id]? =some (qJ l st))(G:n=l.length)(Q:l.length<1099511627776):
    ACalls Tryz.prog 128 [.tl id st,i64 n,.fn (.func 95) [] []] h λr h'=>r= .tup []/\h'=h.set id (qJ (zS l) st):=by
 have u:∀o,(h.set id o)[id]? =some o:=λo=>zt hi;refine enterSX Tryz.f128 (λB=>?_) (⟨_,_,⟨rfl,rfl⟩,qX hi rfl⟩)
 refine wp_loop_a ze (λk T h'=>∃D R,D++blkE 20 R=blkE 20 l/\D.length+R.length=n/\h'=h.set id (qJ (D++R) st)/\T 0= .tl id st/\T 1=i64 n/\T 2= .fn (.func 95) [] []/\T 6=i64 (20:Nat)/\T 7=i64 D.length/\T 8=i64 (D.length+20:Nat)/\k=R.length) l.length
  ⟨[],l,rfl,by simp[G],(jA hi).symm,zo,zo,zo,by(simp only[go_sem]<;>rfl),by(simp only[go_sem]<;>rfl),by(simp only[go_sem]<;>rfl),rfl⟩ ?_
 rintro k T h' ⟨D,R,f,m,rfl,t0,t1,t2,t6,j,i,rfl⟩;simp only[go_sem,t1,i];refine ways (λe=>?_) (λe=>?_)
 ·have x:=dle e;obtain⟨c,d,rfl,g⟩:=Zh (l:=R) (n:=20) zb;simp only[zp] at m;have t:wr (((D.length+20:Nat):Int)+20)=((D.length+20+20:Nat):Int):=wP (b:=20) zb;rw[yU g zb] at f;have S:=jl c;simp only[go_sem,t0,t2,t6,j,i];refine zl (c116 _ id st _ _ D c d (u _) rfl zb zE) ?_;rintro _ F ⟨rfl,q⟩;subst q;simp only[go_sem,i,t6,t,qB];exact⟨d.length,zb,D++zS c,d,by rw[<-f];simp,zE,zh,t0,t1,t2,jT zE,jT zE,rfl⟩
 ·have s:=wxa e;have J:R.length<20:=zb;rw[wJ zb] at f;simp only[go_sem,t0,t1,t2,j];refine zl (c116 _ id st _ _ D R [] (by rw[u];simp) rfl zb zE) ?_;rintro _ F ⟨rfl,q⟩;subst q;rw[zJ,f];simp only[go_sem,qB]
  refine wp_loop_a ze (λk T h'=>∃a:Nat,0<a/\a<2199023255552/\h'=h.set id (qJ (blkE a l) st)/\T 0= .tl id st/\T 1=i64 n/\T 2= .fn (.func 95) [] []/\T 6=i64 a/\k=n - a) (n - 20)
   ⟨20,zb,zb,rfl,by simp only[go_sem,t0],by simp only[go_sem,t1],by simp only[go_sem,t2],by simp only[go_sem,t6],rfl⟩ ?_
  clear t0 t1 t2 t6 j i f m J s e;rintro k T h' ⟨a,P,I,rfl,t0,t1,t2,t6,rfl⟩;simp only[go_sem,t1,t6];refine ways (λe=>?_) (λe=>?_)
  ·have M:=dlt e;have t:=wva (k:=a) zb;have E:=wwa (k:=a) zb;simp only[go_sem,t6,t]
   refine wp_loop_a ze (λk T h'=>∃D R,D++blkE (2*a) R=blkE (2*a) l/\D.length+R.length=n/\h'=h.set id (qJ (D++blkE a R) st)/\T 0= .tl id st/\T 1=i64 n/\T 2= .fn (.func 95) [] []/\T 6=i64 a/\T 7=i64 D.length/\T 8=i64 (D.length+2*a:Nat)/\k=R.length) l.length
    ⟨[],l,rfl,by simp[G],rfl,by simp only[go_sem,t0],by simp only[go_sem,t1],by simp only[go_sem,t2],by simp only[go_sem,t6],by(simp only[go_sem]<;>rfl),by(simp only[go_sem]<;>exact jT zh),rfl⟩ ?_
   clear t0 t1 t2 t6;rintro k T h' ⟨D,R,f,m,rfl,t0,t1,t2,t6,j,i,rfl⟩;simp only[go_sem,t1,i];refine ways (λe=>?_) (λe=>?_)
   ·have x:=dle e;obtain⟨c,O,rfl,g⟩:=Zh (l:=R) (n:=a) zb;obtain⟨d,p,rfl,v⟩:=Zh (l:=O) (n:=a) (by simp at m;omega);simp only[zp] at m;have z:wr (((D.length:Nat):Int)+(a:Int))=((D.length+a:Nat):Int):=wP zb;have N:wr (((D.length+2*a:Nat):Int)+((2*a:Nat):Int))=((D.length+2*a+2*a:Nat):Int):=wP zb
    have L:blkE (2*a) (c++(d++p))=zS (c++d)++blkE (2*a) p:=by
     rw[<-zq,yU zE zb]
    rw[L] at f;rw[yU g zb,yU v zb];have w:=jl c;have C:=jl d;have A:=jl (c++d);simp only[zp] at A;have K:=jJa a p;simp only[go_sem,t0,t2,t6,j,i,z];refine zl (c117 _ _ id st _ _ _ D (zS c) (zS d) (blkE a p) (u _) rfl zb zb zb zb (xB _) (xB _) zb (zB _)) ?_;rintro _ F ⟨rfl,q⟩;subst q;rw[yq];simp only[go_sem,i,t6,t,N,qB];exact⟨p.length,zb,D++zS (c++d),p,by rw[<-f];simp,zE,zh,t0,t1,t2,jT zE,jT zE,rfl⟩
   ·have s:=wxa e;have z:wr (((D.length:Nat):Int)+(a:Int))=((D.length+a:Nat):Int):=wP zb;simp only[go_sem,t1,t6,j,z];refine ways (λe=>?_) (λe=>?_)
    ·have H:=dlt e;obtain⟨c,d,rfl,g⟩:=Zh (l:=R) (n:=a) zb;simp only[zp] at m;rw[yU g zb,wJ zb];rw[wJ zE, <-yq] at f;have w:=jl c;have C:=jl d;simp only[go_sem,t0,t1,t2,t6,j];refine qx (c117 _ _ id st _ _ _ D (zS c) (zS d) [] (by rw[u];simp) rfl zb zb zb zb (xB _) (xB _) zE (zB _)) ?_;rw[zJ,f];simp only[go_sem,t6,E,qB];exact⟨n - 2*a,zb,2*a,zb,zb,rfl,t0,t1,t2,rfl,rfl⟩
    ·have y:=jO e;rw[wJ zb];rw[wJ zb] at f;rw[f];simp only[go_sem,t6,E];exact⟨n - 2*a,zb,2*a,zb,zb,rfl,t0,t1,t2,rfl,rfl⟩
  ·have y:=jO e;rw[wJ zb];refine zz ?_;exact⟨.tup [],zo,.inl ⟨rfl,rfl⟩⟩
def jLa{h:List Ob}{x:AV}{r:List AV}{rs:List (List AV)}(b:zI h x=some (r::rs)):(∃e xs,x= .sl e xs)∨(∃i s,x= .tl i s)∨(∃a e i n,x= .vw a e i n):=by
 cases x with
 | sl e xs=>exact .inl ⟨_,_,rfl⟩
 | tl i s=>exact .inr (.inl ⟨_,_,rfl⟩)
 | vw a e i n=>exact .inr (.inr ⟨_,_,_,_,rfl⟩)
 | v x=>
   unfold zI at b
   split at b<;>rename_i heq<;>first
    | (cases heq;done)
    | (injection heq with heq;subst heq;injection b with b;cases b)
    | cases b
 | em=>injection b with b;cases b
 | _=>cases b
def vEa(l:List Ev):((l.map evC).all λr=>r.length==11 && r.all AV.one)=true:=by
 rw[zY];intro r a;obtain⟨e,_,rfl⟩:=zQ.1 a;rfl
def wya(x f:AV):js Tryz.prog 149 [x,i64 0,i64 0,f] (.tup []):=λh=>by
 refine enterSX Tryz.f149 λB=>?_;refine vl 1 (jI ze ?_);refine zz ?_;exact qt
def wza(x f:AV):js Tryz.prog 128 [x,i64 0,f] (.tup []):=λh=>by
 refine enterSX Tryz.f128 λB=>?_;refine vl 1 (jI ze ?_);refine zz ?_;refine qI (wya _ _ _) ?_;refine vl 1 (jI ze ?_);refine zz ?_;exact qt
def c88(h:List Ob)(id st:Nat)(l:List Ev)(hi:h[id]? =some (qJ l st))(a:l.length<1099511627776):
    ACalls Tryz.prog 94 [.tl id st,.fn (.func 95) [] []] h λr h'=>r= .tup []/\h'=h.set id (qJ (zS l) st):=by
 refine enterQX Tryz.f94 (λB=>?_) (⟨_,_,⟨rfl,rfl⟩,qX hi rfl⟩);simp only[go_sem,hi,zc];refine qI (c107 _ id st _ l hi rfl a) ?_;exact⟨.tup [],zo,.inl ⟨rfl,rfl⟩⟩
def yja(f:AV):js Tryz.prog 94 [.v (.slice none 0 0),f] (.tup []):=λh=>by
 refine enterSX Tryz.f94 λB=>?_;refine qI (wza _ _ _) ?_;exact qt
def c87(h:List Ob)(x:AV)(l:List Ev)(g:SlOf h x 11 (l.map evC))(t:l.length<1099511627776):
    ACalls Tryz.prog 93 [x] h λr h'=>(l=[]/\h'=h/\r= .v (.slice none 0 0))∨(h'=h++[qJ l 1]/\r= .tl h.length 1):=by
 refine acalls_of (N:=8) (rs:=[.tmp 2]) (fn:=Tryz.f93) rfl rfl rfl rfl (Nat.le_of_ble_eq_true rfl) rfl (⟨_,_,.inr ⟨rfl,rfl⟩,jp⟩) λB=>?_;cases l with
 | nil=>
   refine xQa 0 rfl g.rows (λm=>?_) ?_
   ·refine vk _ ze ?_;simp only[go_sem];exact⟨.v (.slice none 0 0),zo,.inl (.inl ⟨rfl,rfl⟩)⟩
   ·refine vk _ ze ?_;simp only[go_sem];exact⟨.tl h.length 1,zo,.inl (.inr ⟨rfl,rfl⟩)⟩
 | cons y l=>
   have q:=g.at (i:=0) zh;have d:=g.rows
   have p:Qn x=false:=by
    rcases jLa d with⟨e,xs,rfl⟩|⟨i,s,rfl⟩|⟨a,e,i,n,rfl⟩<;>rfl
   unfold Qn at p;have b:∀L,zI (h++L) x=some ((y::l).map evC):=λL=>(g.app L).rows;have k:=vEa (y::l);have f:((y::l).map evC).length*89<=140737488355328:=(by rw[zc];omega);obtain⟨L,j⟩:∃L,L=(y::l).map evC:=⟨_,rfl⟩;rw[<-j] at d b k f;obtain⟨r,o,c⟩:∃r o,L=r::o:=⟨_,_,j⟩;rw[c] at d b k f;rw[List.length_cons] at f;refine vk _ ze ?_;simp only[go_sem,d,q,p,b,k,f,Bool.or_true,decide_true];refine⟨.tl h.length 1,zo,.inl (.inr ⟨?_,rfl⟩)⟩;rw[<-c,j]
def c57(h:List Ob)(x:AV)(l:List Ev)(c:SlOf h x 11 (l.map evC))(a:l.length<1099511627776):
    ACalls Tryz.prog 48 [x] h λr h'=>(l=[]/\h'=h/\r= .v (.slice none 0 0))∨(h'=h++[qJ (zS l) 1]/\r= .tl h.length 1):=by
 refine enterSX Tryz.f48 (λB=>?_) (⟨_,_,.inr ⟨rfl,rfl⟩,jp⟩);refine zl (c87 h x l c a) ?_;rintro _ e (⟨rfl,rfl,rfl⟩|⟨rfl,rfl⟩)
 ·refine zz ?_;refine zl (yja _ _) ?_;rintro _ f ⟨rfl,b⟩;subst b;refine zz ?_;exact⟨.v (.slice none 0 0),zo,.inl (.inl ⟨rfl,rfl⟩)⟩
 ·have d:(h++[qJ l 1])[h.length]? =some (qJ l 1):=by simp
  refine zz ?_;refine qI (c88 _ _ _ l d a) ?_;refine⟨.tl h.length 1,zo,.inl (.inr ⟨?_,rfl⟩)⟩;simp
section
variable{h h0 M h':List Ob}{o:Ob}{a:SA}{x p:AV}{xs d c:List (List AV)}{F:List (Nat × List AV)}{α:Type}{n k:Nat}
def NoRes(L:List Ob):Prop:=∀o∈L,o.isRes=false
def Pre(h0 h:List Ob):Prop:=∃L,h=h0++L/\NoRes L
def Pre.refl:Pre h h:=⟨[],zh,λ_ h=>by cases h⟩
def Pre.app(k:Pre h0 h)(b:NoRes M):Pre h0 (h++M):=by
 obtain⟨L,rfl,c⟩:=k;refine⟨L++M,zh,λo a=>?_⟩;rcases zV.1 a with a|a
 ·exact c o a
 ·exact b o a
def Pre.set{i:Nat}(k:Pre h0 h)(hi:h0.length<=i)(b:o.isRes=false):Pre h0 (h.set i o):=by
 obtain⟨L,rfl,c⟩:=k;refine⟨L.set (i - h0.length) o,by rw[qd _ _ hi],λx a=>?_⟩;rcases List.mem_or_eq_of_mem_set a with a|a
 ·exact c x a
 ·rw[a];exact b
def Pre.resK(k:Pre h0 h)(k':Pre h0 h'):ResK h h':=by
 obtain⟨L,rfl,b⟩:=k;obtain⟨c,rfl,_⟩:=k';intro i hi;rcases Nat.lt_or_ge i h0.length with a|a
 ·rw[zH a] at hi⊢;exact hi
 ·rw[zM a] at hi;have:=b _ (ja hi);cases this
def Pre.sin(k:Pre h0 h){s:Setup}(q:SIn h0 s a):SIn h s a:=by
 obtain⟨L,rfl,_⟩:=k;exact q.app L
def Pre.sl(k:Pre h0 h){e:Nat}{rows:List (List AV)}(q:SlOf h0 x e rows):SlOf h x e rows:=by
 obtain⟨L,rfl,_⟩:=k;exact q.app L
def Pre.len(k:Pre h0 h):h0.length<=h.length:=by
 obtain⟨L,rfl,_⟩:=k;simp
def Pre.trans(k:Pre h0 h)(k':Pre h h'):Pre h0 h':=by
 obtain⟨L,rfl,a⟩:=k';exact k.app a
def zW(h:o.isRes=false):NoRes [o]:=λx a=>by rw[qA.1 a];exact h
def kR:NoRes []:=λ_ h=>by cases h
def zA{L:List Ob}(h:o.isRes=false)(k:NoRes L):NoRes (o::L):=λx a=>by
 rcases zK.1 a with rfl|a
 ·exact h
 ·exact k x a
def OwnS(h0 h:List Ob)(ty e:Nat)(x:AV)(rows:List (List AV)):Prop:=(x= .v (.slice none 0 0)/\rows=[])∨∃id st,h0.length<=id/\x= .tl id st/\h[id]? =some (.row ty e rows st)
def OwnS.app{ty e:Nat}{rows:List (List AV)}(k:OwnS h0 h ty e x rows)(M:List Ob):OwnS h0 (h++M) ty e x rows:=by
 rcases k with k|⟨id,st,k1,k2,k3⟩
 ·exact .inl k
 ·exact .inr ⟨id,st,k1,k2,zk k3⟩
def OwnS.set_box{ty e:Nat}{rows:List (List AV)}(k:OwnS h0 h ty e x rows){i t:Nat}{a:List AV}(hi:h[i]? =some (.box t a))(o:Ob):OwnS h0 (h.set i o) ty e x rows:=by
 rcases k with k|⟨id,st,k1,k2,k3⟩
 ·exact .inl k
 ·refine .inr ⟨id,st,k1,k2,?_⟩;have:i≠id:=λq=>by rw[q,k3] at hi;cases hi
  rw[zf this];exact k3
def OwnS.set_row{ty e:Nat}{rows:List (List AV)}(k:OwnS h0 h ty e x rows){i t b s:Nat}(hi:h[i]? =some (.row t b xs s))(a:ty≠t)(o:Ob):OwnS h0 (h.set i o) ty e x rows:=by
 rcases k with k|⟨id,st,k1,k2,k3⟩
 ·exact .inl k
 ·refine .inr ⟨id,st,k1,k2,?_⟩;have:i≠id:=λq=>by rw[q,k3] at hi;injection hi with hi;injection hi with h1;exact a h1
  rw[zf this];exact k3
def OwnS.rows{ty e:Nat}{rows:List (List AV)}(k:OwnS h0 h ty e x rows):SlOf h x e rows:=by
 rcases k with⟨rfl,rfl⟩|⟨id,st,_,rfl,k3⟩
 ·exact⟨rfl,λh=>absurd rfl h⟩
 ·refine⟨?_,λ_=>?_⟩
  ·rw[jR,k3,vm,if_pos rfl]
  ·rw[vM,k3,wH]
structure Seg where
 from_:Int
 to_:Int
 kind:Int
 id:Int
 code:Int
abbrev qU(g:Seg):List AV:=[i64 g.from_,i64 g.to_,i64 g.kind,i64 g.id,i64 g.code]
structure Flg where
 id:Int
 kind:Int
abbrev kZ(f:Flg):List AV:=[i64 f.id,i64 f.kind]
structure TellS where
 open_:Option (Ev × List Ev)
 segs:List Seg
 flags:List Flg
abbrev VU(e:Ev)(o:AV):List AV:=evC e++[o]
abbrev va(s:Setup)(a:SA)(p x y:AV):List AV:=zN s a++[p,x,y]
def OpenIn(h0 h:List Ob)(p:AV):Option (Ev × List Ev)->Prop
 | none=>p= .v (.pointer none)
 | some (e,os)=>∃j o,h0.length<=j/\p= .ptr j 0/\h[j]? =some (.box 117 (VU e o))/\OwnS h0 h 55 11 o (os.map evC)
def OpenIn.app:∀ {t:Option (Ev × List Ev)},OpenIn h0 h p t->∀M,OpenIn h0 (h++M) p t
 | none,k,_=>k
 | some (e,os),⟨j,o,k1,k2,k3,k4⟩,M=>⟨j,o,k1,k2,zk k3,k4.app M⟩
def OpenIn.set_box:∀ {t:Option (Ev × List Ev)},OpenIn h0 h p t->∀ {i ty:Nat} {a:List AV},h[i]? =some (.box ty a)->ty≠117->∀o,OpenIn h0 (h.set i o) p t
 | none,k,_,_,_,_,_,_=>k
 | some (e,os),⟨j,x,k1,k2,k3,k4⟩,i,ty,a,hi,b,o=>⟨j,x,k1,k2,by
   have:i≠j:=λq=>by rw[q,k3] at hi;injection hi with hi;injection hi with h1;exact b h1.symm
   rw[zf this];exact k3,k4.set_box hi o⟩
def OpenIn.set_row:∀ {t:Option (Ev × List Ev)},OpenIn h0 h p t->∀ {i ty e s:Nat} {xs:List (List AV)},h[i]? =some (.row ty e xs s)->ty≠55->∀o,OpenIn h0 (h.set i o) p t
 | none,k,_,_,_,_,_,_,_,_=>k
 | some (e,os),⟨j,x,k1,k2,k3,k4⟩,i,ty,b,s,xs,hi,a,o=>⟨j,x,k1,k2,by
   have:i≠j:=λq=>(by rw[q,k3] at hi;cases hi);rw[zf this];exact k3,k4.set_row hi (Ne.symm a) o⟩
def Kept(F:List (Nat × List AV))(h:List Ob):Prop:=∀z∈F,h[z.1]? =some (.box 55 z.2)
def Kept.app(k:Kept F h)(M:List Ob):Kept F (h++M):=λz a=>zk (k z a)
def Kept.set_box(k:Kept F h){i ty:Nat}{b:List AV}(hi:h[i]? =some (.box ty b))(c:ty≠55)(o:Ob):Kept F (h.set i o):=λz d=>by
 have:=k z d;have a:i≠z.1:=λq=>by rw[q,this] at hi;injection hi with hi;injection hi with hi;exact c hi.symm
 rw[zf a];exact this
def Kept.set_row(k:Kept F h){i ty e st:Nat}(hi:h[i]? =some (.row ty e xs st))(o:Ob):Kept F (h.set i o):=λz b=>by
 have:=k z b;have a:i≠z.1:=λq=>by rw[q,this] at hi;cases hi
 rw[zf a];exact this
def Kept.set_ne(k:Kept F h){i:Nat}(hi:∀z∈F,z.1≠i)(o:Ob):Kept F (h.set i o):=λz a=>by
 rw[zf (Ne.symm (hi z a))];exact k z a
structure TellIn (F:List (Nat × List AV)) (h0 h:List Ob) (i:Nat) (s:Setup) (a:SA) (t:TellS):Prop where
 pre:Pre h0 h
 le:h0.length<=i
 kept:Kept F h
 at_:∃p x y,h[i]? =some (.box 91 (va s a p x y))/\OwnS h0 h 62 5 x (t.segs.map qU)/\OwnS h0 h 84 2 y (t.flags.map kZ)/\OpenIn h0 h p t.open_
def TellIn.app{i:Nat}{s:Setup}{t:TellS}(k:TellIn F h0 h i s a t)(b:NoRes M):TellIn F h0 (h++M) i s a t:=by
 obtain⟨k1,k2,c,p,x,y,k3,k4,k5,k6⟩:=k;exact⟨k1.app b,k2,c.app M,p,x,y,zk k3,k4.app M,k5.app M,k6.app M⟩
def xb(t:TellS)(e:Ev)(k:Int):TellS:=⟨t.open_,t.segs,t.flags++[⟨e.id,k⟩]⟩
def qa{l M:List α}(a:n=l.length):(l++M)[n+k]? =M[k]? :=by
 rw[zM zb,show n+k - l.length=k by omega]
def qr{l M:List α}(a:n=l.length):(l++M)[n]? =M[0]? :=qa (k:=0) a
def TellIn.any{i:Nat}{s:Setup}{t:TellS}(k:TellIn F h0 h i s a t)(b:TellS):∃l j g M,NoRes M/\TellIn F h0 (h.set i (.box 91 (va s a l j g))++M) i s a b:=by
 obtain⟨k1,k2,d,p,x,y,k3,k4,k5,k6⟩:=k;have f:=k1.len
 have hi:i<h.length:=by
  rcases Nat.lt_or_ge i h.length with q|q
  ·exact q
  ·rw[zR q] at k3;cases k3
 cases c:b.open_ with
 | none=>
   refine⟨.v (.pointer none),.tl (h.length+0) 0,.tl (h.length+1) 0,[.row 62 5 (b.segs.map qU) 0,.row 84 2 (b.flags.map kZ) 0],zA rfl (zW rfl),(k1.set k2 rfl).app (zA rfl (zW rfl)),k2,(d.set_box k3 ze _).app _,_,_,_,zk (zt k3),.inr ⟨_,0,?_,rfl,?_⟩,.inr ⟨_,0,?_,rfl,?_⟩,?_⟩
   ·omega
   ·rw[qa zh];rfl
   ·omega
   ·rw[qa zh];rfl
   ·rw[c];rfl
 | some q=>
   obtain⟨e,os⟩:=q;refine⟨.ptr (h.length+3) 0,.tl (h.length+0) 0,.tl (h.length+1) 0,[.row 62 5 (b.segs.map qU) 0,.row 84 2 (b.flags.map kZ) 0,.row 55 11 (os.map evC) 0,.box 117 (VU e (.tl (h.length+2) 0))],zA rfl (zA rfl (zA rfl (zW rfl))),(k1.set k2 rfl).app (zA rfl (zA rfl (zA rfl (zW rfl)))),k2,(d.set_box k3 ze _).app _,_,_,_,zk (zt k3),.inr ⟨_,0,?_,rfl,?_⟩,.inr ⟨_,0,?_,rfl,?_⟩,?_⟩
   ·omega
   ·rw[qa zh];rfl
   ·omega
   ·rw[qa zh];rfl
   ·rw[c];refine⟨h.length+3,.tl (h.length+2) 0,?_,rfl,?_,.inr ⟨h.length+2,0,?_,rfl,?_⟩⟩
    ·omega
    ·rw[qa zh];rfl
    ·omega
    ·rw[qa zh];rfl
def wt(k:Int):Int:=if k=3 then 1 else if k=4 then 2 else if k=5 then 3 else 0
def toP(first last to_:Int):Int:=max first (min to_ last)
def kg(t:TellS)(a to_:Int)(e:Ev):TellS:=if a<to_ then⟨t.open_,t.segs++[⟨a,to_,wt e.kind,e.id,e.code⟩],t.flags⟩ else t
def TellIn.keep{i:Nat}{s:Setup}{t:TellS}(k:TellIn F h0 h i s a t)(e:Ev):TellIn ((h.length,evC e)::F) h0 (h++[.box 55 (evC e)]) i s a t:=by
 have q:=k.app (M:=[.box 55 (evC e)]) (zW rfl);refine⟨q.pre,q.le,λz b=>?_,q.at_⟩;rcases zK.1 b with rfl|b
 ·rw[qr rfl];rfl
 ·exact q.kept z b
def TellIn.drop{z:Nat × List AV}{i:Nat}{s:Setup}{t:TellS}(k:TellIn (z::F) h0 h i s a t):TellIn F h0 h i s a t:=⟨k.pre,k.le,λy b=>k.kept y (List.mem_cons_of_mem _ b),k.at_⟩
def TellIn.gone{i id e st:Nat}{s:Setup}{t:TellS}(k:TellIn F h0 h i s a t)(hi:h[id]? =some (.row 55 e xs st))(b:h0.length<=id)(d:t.open_=none):TellIn F h0 (h.set id .gone) i s a t:=by
 obtain⟨k1,k2,f,p,x,y,k3,k4,k5,k6⟩:=k;have c:id≠i:=λq=>by rw[q,k3] at hi;cases hi
 rw[d] at k6;refine⟨k1.set b rfl,k2,f.set_row hi _,p,x,y,by rw[zf c];exact k3,k4.set_row hi ze _,k5.set_row hi ze _,?_⟩;rw[d];exact k6
structure PartIn (F:List (Nat × List AV)) (h0 h:List Ob) (i nf nl nb nt nq:Nat) (s:Setup) (a:SA) (ow:AV) (ows:List (List AV)) (first last begin_:Int) (by_:Ev) (t:TellS):Prop where
 n1:nf≠nb
 n2:nl≠nb
 n3:h0.length<=nb
 n4:h0.length<=nq
 n5:∀z∈F,z.1≠nq
 b1:h[nf]? =some (.box 3 [i64 first])
 b2:h[nl]? =some (.box 3 [i64 last])
 b3:h[nb]? =some (.box 3 [i64 begin_])
 b4:h[nt]? =some (.box 88 [.ptr i 0])
 b5:h[nq]? =some (.box 55 (evC by_))
 t:TellIn F h0 h i s a t
 b6:OwnS h0 h 55 11 ow ows
def TellIn.ex{i:Nat}{s:Setup}{t:TellS}(k:TellIn F h0 h i s a t)(b:TellS):∃r h',(r=AV.tup []/\TellIn F h0 h' i s a b)/\ResK h h':=by
 obtain⟨c,e,d,M,_,q⟩:=k.any b;exact⟨_,_,⟨rfl,q⟩,k.pre.resK q.pre⟩
def TellIn.set_box{i k ty:Nat}{s:Setup}{t:TellS}{j:List AV}(q:TellIn F h0 h i s a t)(b:h[k]? =some (.box ty j))(e:ty≠91)(l:ty≠117)(c:h0.length<=k)(g:o.isRes=false)(f:Kept F (h.set k o)):TellIn F h0 (h.set k o) i s a t:=by
 obtain⟨k1,k2,m,p,x,y,k3,k4,k5,k6⟩:=q;have d:k≠i:=λq=>by rw[q,k3] at b;injection b with b;injection b with b;exact e b.symm
 exact⟨k1.set c g,k2,f,p,x,y,by rw[zf d];exact k3,k4.set_box b o,k5.set_box b o,k6.set_box b l o⟩
def xE{i j t u:Nat}{a ds:List AV}(hi:h[i]? =some (.box t a))(b:h[j]? =some (.box u ds))(c:t≠u):i≠j:=λq=>by
 rw[q,b] at hi;injection hi with hi;injection hi with hi;exact c hi.symm
def PartIn.next{i n nl f nt g:Nat}{s:Setup}{j:AV}{first last b:Int}{e:Ev}{t:TellS}(k:PartIn F h0 h i n nl f nt g s a j d first last b e t)(b':Int)(m:Ev):
    PartIn F h0 ((h.set f (.box 3 [i64 b'])).set g (.box 55 (evC m))) i n nl f nt g s a j d first last b' m t:=by
 have q:=xE k.b5 k.b1 ze;have r:=xE k.b5 k.b2 ze;have l:=xE k.b5 k.b3 ze;have p:=xE k.b5 k.b4 ze;have o:=xE k.b3 k.b4 ze;have c:(h.set f (.box 3 [i64 b']))[g]? =some (.box 55 (evC e)):=by rw[zf (Ne.symm l)];exact k.b5
 refine⟨k.n1,k.n2,k.n3,k.n4,k.n5,?_,?_,?_,?_,zt c,(k.t.set_box k.b3 ze ze k.n3 rfl (k.t.kept.set_box k.b3 ze _)).set_box c ze ze k.n4 rfl ((k.t.kept.set_box k.b3 ze _).set_ne k.n5 _),(k.b6.set_box k.b3 _).set_box c _⟩
 ·rw[zf q,zf (Ne.symm k.n1)];exact k.b1
 ·rw[zf r,zf (Ne.symm k.n2)];exact k.b2
 ·rw[zf l];exact zt k.b3
 ·rw[zf p,zf o];exact k.b4
def PartIn.tell{i n nl m nt r:Nat}{s:Setup}{l:AV}{first last b:Int}{d:Ev}{t u:TellS}{e:List AV}(k:PartIn F h0 h i n nl m nt r s a l c first last b d t)(q:TellIn F h0 (h.set i (.box 91 e)++M) i s a u):
    PartIn F h0 (h.set i (.box 91 e)++M) i n nl m nt r s a l c first last b d u:=by
 obtain⟨p,x,y,k3,_⟩:=k.t.at_;have A:=xE k3 k.b1 ze;have C:=xE k3 k.b2 ze;have v:=xE k3 k.b3 ze;have z:=xE k3 k.b4 ze;have w:=xE k3 k.b5 ze;have g:∀ {j:Nat} {o:Ob},i≠j->h[j]? =some o->(h.set i (.box 91 e)++M)[j]? =some o:=λf B=>zk (by rw[zf f];exact B);exact⟨k.n1,k.n2,k.n3,k.n4,k.n5,g A k.b1,g C k.b2,g v k.b3,g z k.b4,g w k.b5,q,(k.b6.set_box k3 _).app _⟩
def PartIn.tell2{i v nl u nt w id ty e st:Nat}{r:Ob}{s:Setup}{o:AV}{first last b:Int}{f:Ev}{t z:TellS}{m:List AV}(k:PartIn F h0 h i v nl u nt w s a o d first last b f t)(c:h[id]? =some (.row ty e xs st))(E:55≠ty)(q:TellIn F h0 ((h.set id r).set i (.box 91 m)++M) i s a z):
    PartIn F h0 ((h.set id r).set i (.box 91 m)++M) i v nl u nt w s a o d first last b f z:=by
 obtain⟨p,x,y,k3,_⟩:=k.t.at_;have D:=xE k3 k.b1 ze;have G:=xE k3 k.b2 ze;have A:=xE k3 k.b3 ze;have C:=xE k3 k.b4 ze;have B:=xE k3 k.b5 ze
 have g:∀ {j t:Nat} {ds:List AV},i≠j->h[j]? =some (.box t ds)->((h.set id r).set i (.box 91 m)++M)[j]? =some (.box t ds):=λn l=>zk (by
  have:∀ {j t:Nat} {ds:List AV},h[j]? =some (.box t ds)->id≠j:=λl q=>by rw[q,l] at c;cases c
  rw[zf n,zf (this l)];exact l)
 exact⟨k.n1,k.n2,k.n3,k.n4,k.n5,g D k.b1,g G k.b2,g A k.b3,g C k.b4,g B k.b5,q,((k.b6.set_row c E _).set_box (show(h.set id r)[i]? =some (.box 91 (va s a p x y)) by rw[zf (λq=>by rw[q,k3] at c;cases c)];exact k3) _).app _⟩
def PartIn.pre{i g nl f nt j:Nat}{s:Setup}{e:AV}{first last b:Int}{d:Ev}{t:TellS}(k:PartIn F h0 h i g nl f nt j s a e c first last b d t):Pre h0 h:=k.t.pre
def PartIn.app{i g nl f nt j:Nat}{s:Setup}{e:AV}{first last b:Int}{d:Ev}{t:TellS}(k:PartIn F h0 h i g nl f nt j s a e c first last b d t)(l:NoRes M):PartIn F h0 (h++M) i g nl f nt j s a e c first last b d t:=
 ⟨k.n1,k.n2,k.n3,k.n4,k.n5,zk k.b1,zk k.b2,zk k.b3,zk k.b4,zk k.b5,k.t.app l,k.b6.app M⟩
def PartIn.any{i j nl f nt l:Nat}{s:Setup}{e:AV}{first last b:Int}{d:Ev}{t:TellS}(k:PartIn F h0 h i j nl f nt l s a e c first last b d t)(b':Int)(g:Ev)(m:TellS):
    ∃r h',(r=AV.tup []/\PartIn F h0 h' i j nl f nt l s a e c first last b' g m)/\ResK h h':=by
 have k2:=k.next b' g;obtain⟨p,o,n,M,_,q⟩:=k2.t.any m;have k3:=k2.tell q;exact⟨_,_,⟨rfl,k3⟩,k.pre.resK k3.pre⟩
def kH(first last:Int)(z:Int × Ev × TellS)(x:Ev):Int × Ev × TellS:=(toP first last x.at_,x,kg z.2.2 z.1 (toP first last x.at_) z.2.1)
def QT{t:TellS}{b to_:Int}{e:Ev}:(kg t b to_ e).flags=t.flags:=by unfold kg;split<;>rfl
def X0{t:TellS}{b to_:Int}{e:Ev}:(kg t b to_ e).segs.length<=t.segs.length+1:=by unfold kg;split<;>simp
def Qs{first last:Int}(os:List Ev):∀ {z:Int × Ev × TellS},(os.foldl (kH first last) z).2.2.segs.length<=z.2.2.segs.length+os.length:=by
 induction os with
 | nil=>intro z;simp
 | cons x os d=>
   intro z;rw[List.foldl_cons];have a:=d (z:=kH first last z x);have f:=X0 (t:=z.2.2) (b:=z.1) (to_:=toP first last x.at_) (e:=z.2.1);have c:(kH first last z x).2.2=kg z.2.2 z.1 (toP first last x.at_) z.2.1:=rfl;rw[c] at a;rw[List.length_cons];omega
def xT(first last:Int)(t:TellS)(e:Ev)(os:List Ev):Int × Ev × TellS:=os.foldl (kH first last) (first,e,t)
def kI(first last:Int)(t:TellS)(e:Ev)(os:List Ev):TellS:=kg (xT first last t e os).2.2 (xT first last t e os).1 (toP first last last) (xT first last t e os).2.1
def Yd{first last:Int}(os:List Ev):∀ {z:Int × Ev × TellS},(os.foldl (kH first last) z).2.2.flags=z.2.2.flags:=by
 induction os with
 | nil=>intro z;rfl
 | cons x os a=>
   intro z;rw[List.foldl_cons,a];exact QT
def VV{first last:Int}{t:TellS}{e:Ev}{os:List Ev}:(xT first last t e os).2.2.flags=t.flags:=Yd os
end
