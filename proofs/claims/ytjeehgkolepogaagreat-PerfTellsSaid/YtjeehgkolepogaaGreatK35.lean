import Derived.Test.YtjeehgkolepogaaGreatK34
set_option linter.all false
namespace Go.Proofs.YtjeehgkolepogaaGreat.Ax
open Go Go.Proofs
def inR(s:Spn)(t:Int):Bool:=decide (t≥0) && (decide (t<32054400) && (decide (s.from_<=t) && decide (t<s.to_)))
def Qv(l:List Spn)(t:Int):Bool:=l.any λs=>inR s t
def Qb(t o:Int)(s:Spn):Int:=if s.to_>t then min (if s.from_>t then min o s.from_ else o) s.to_ else(if s.from_>t then min o s.from_ else o)
def yv(l:List Spn)(t:Int):Int:=l.foldl (Qb t) 32054400
def Yf{t:Int}:∀(l:List Spn) (o:Int),t<o->(t<l.foldl (Qb t) o/\l.foldl (Qb t) o<=o)/\∀s∈l,(s.from_>t->l.foldl (Qb t) o<=s.from_)/\(s.to_>t->l.foldl (Qb t) o<=s.to_)
 | [],o,h=>⟨⟨h,Int.le_refl _⟩,λ_ h=>by cases h⟩
 | x::l,o,h=>by
   have b:t<Qb t o x/\Qb t o x<=o/\(x.from_>t->Qb t o x<=x.from_)/\(x.to_>t->Qb t o x<=x.to_):=by
    unfold Qb;split<;>split<;>refine⟨?_,?_,?_,?_⟩<;>omega
   obtain⟨e,d,f,c⟩:=b;obtain⟨⟨k1,k2⟩,k3⟩:=Yf l (Qb t o x) e;rw[List.foldl_cons];refine⟨⟨k1,Int.le_trans k2 d⟩,λs a=>?_⟩;rcases zK.1 a with rfl|a
   ·exact⟨λq=>Int.le_trans k2 (f q),λq=>Int.le_trans k2 (c q)⟩
   ·exact k3 s a
def J3{a:List Spn}{t u:Int}(f:t<32054400)(g:t<=u)(c:u<yv a t):Cov a u↔Cov a t:=by
 have k:=(Yf a 32054400 f).2;have c:u<a.foldl (Qb t) 32054400:=c;constructor
 ·rintro ⟨s,b,e,d⟩;obtain⟨k1,k2⟩:=k s b;refine⟨s,b,?_,zb⟩;apply Classical.byContradiction;intro q;have:=k1 zb;omega
 ·rintro ⟨s,b,e,d⟩;obtain⟨k1,k2⟩:=k s b;have:=k2 zb;exact⟨s,b,zb,zb⟩
def J4{a:List Spn}{t:Int}(h0:0<=t)(e:t<32054400):Qv a t=true↔Cov a t:=by
 unfold Qv;rw[List.any_eq_true];constructor
 ·rintro ⟨s,b,q⟩;unfold inR at q;simp only[zi,decide_eq_true_eq] at q;exact⟨s,b,q.2.2.1,q.2.2.2⟩
 ·rintro ⟨s,b,d,c⟩;refine⟨s,b,?_⟩;unfold inR;simp only[zi,decide_eq_true_eq];exact⟨h0,e,d,c⟩
structure SwI (a:List Spn) (t:Int) (out:List Spn):Prop where
 t0:0<=t
 tm:t<=32054400
 plain:PlainS out
 le:∀z∈out,z.to_<=t
 cov:∀u,Cov out u↔(0<=u/\u<t/\Cov a u)
section
variable {a out:List Spn} {t:Int}
def SwI.none(a:List Spn):SwI a 0 []:=⟨Int.le_refl _,ze,⟨λ_ h=>(by cases h),.nil⟩,λ_ h=>(by cases h),λu=>⟨λh=>absurd h Zi,λh=>zb⟩⟩
def SwI.next(k:SwI a t out)(b:t<32054400):t<yv a t/\yv a t<=32054400:=(Yf a 32054400 b).1
def SwI.skip(k:SwI a t out)(d:t<32054400)(g:Qv a t=false):SwI a (yv a t) out:=by
 obtain⟨i,h⟩:=k.next d;have k0:=k.t0;refine⟨zb,h,k.plain,λz f=>by have:=k.le z f;omega,λu=>?_⟩;rw[k.cov];constructor
 ·rintro ⟨c,e,b⟩;exact⟨c,zb,b⟩
 ·rintro ⟨c,e,b⟩;refine⟨c,?_,b⟩;apply Classical.byContradiction;intro q;have:=(J3 d zb e).1 b;rw[<-J4 k.t0 d,g] at this;cases this
def SwI.push(k:SwI a t out)(f:t<32054400)(o:Qv a t=true)(l:∀z∈out,z.to_≠t):SwI a (yv a t) (out++[⟨t,yv a t⟩]):=by
 obtain⟨n,p⟩:=k.next f;have k0:=k.t0;refine⟨zb,p,⟨λs e=>?_,?_⟩,λz d=>?_,λu=>?_⟩
 ·rcases zV.1 e with e|e
  ·exact k.plain.pos s e
  ·rw[qA.1 e];exact n
 ·rw[qo];refine⟨k.plain.gap,List.pairwise_singleton _ _,λx i y m=>?_⟩;rw[qA.1 m];have:=k.le x i;have:=l x i;show x.to_<t;omega
 ·rcases zV.1 d with d|d
  ·have:=k.le z d;omega
  ·rw[qA.1 d];exact Int.le_refl _
 ·rw[KW,k.cov,jn];have j:=(J4 k.t0 f).1 o;constructor
  ·rintro (⟨c,b,h⟩|⟨c,b⟩|g)
   ·exact⟨c,zb,h⟩
   ·have c:t<=u:=c;have b:u<yv a t:=b;exact⟨zb,b,(J3 f c b).2 j⟩
   ·exact absurd g Zi
  ·rintro ⟨c,b,h⟩;by_cases q:u<t
   ·exact .inl ⟨c,q,h⟩
   ·exact .inr (.inl ⟨show t<=u by omega,b⟩)
def SwI.grow{z:Spn}(k:SwI a t (out++[z]))(i:t<32054400)(n:Qv a t=true)(B:z.to_=t):SwI a (yv a t) (out++[⟨z.from_,yv a t⟩]):=by
 obtain⟨D,v⟩:=k.next i;have k0:=k.t0;have p:=k.plain.pos z zh;have b:=k.plain.gap;rw[qo] at b;refine⟨zb,v,⟨λs f=>?_,?_⟩,λy d=>?_,λu=>?_⟩
 ·rcases zV.1 f with f|f
  ·exact k.plain.pos s (List.mem_append_left _ f)
  ·rw[qA.1 f];show z.from_<yv a t;omega
 ·rw[qo];refine⟨b.1,List.pairwise_singleton _ _,λx r y d=>?_⟩;rw[qA.1 d];exact b.2.2 x r z zh
 ·rcases zV.1 d with d|d
  ·have:=k.le y (List.mem_append_left _ d);omega
  ·rw[qA.1 d];exact Int.le_refl _
 ·have A:=(J4 k.t0 i).1 n;have h:=k.cov u;rw[KW,jn] at h;rw[KW,jn];constructor
  ·rintro (g|⟨e,c⟩|g)
   ·obtain⟨j,o,l⟩:=h.1 (.inl g);exact⟨j,zb,l⟩
   ·have e:z.from_<=u:=e;have c:u<yv a t:=c;by_cases q:u<t
    ·obtain⟨j,o,l⟩:=h.1 (.inr (.inl ⟨e,zb⟩));exact⟨j,c,l⟩
    ·exact⟨zb,c,(J3 i zb c).2 A⟩
   ·exact absurd g Zi
  ·rintro ⟨e,c,w⟩;by_cases q:u<t
   ·rcases h.2 ⟨e,q,w⟩ with g|⟨m,C⟩|g
    ·exact .inl g
    ·exact .inr (.inl ⟨m,c⟩)
    ·exact absurd g Zi
   ·refine .inr (.inl ⟨?_,c⟩);show z.from_<=u;omega
def SwI.done(k:SwI a 32054400 out):out=xo a:=
 J1 k.plain (QV a) λu=>by rw[k.cov,Qu]
end
end Go.Proofs.YtjeehgkolepogaaGreat.Ax
namespace Go.Proofs.YtjeehgkolepogaaGreat.Ax
open Go Go.RowKit
def Yg{o:Option Ob}{st:Nat}{rows:List (List AV)}(a:YW o st=some rows):∃ty e,o=some (.row ty e rows st):=by
 unfold YW at a;split at a
 ·split at a
  ·rename_i b;injection a with a;subst b a;exact⟨_,_,rfl⟩
  ·cases a
 ·cases a
def VW:AV->Option Nat
 | .tl id _=>some id
 | .vw a _ _ _=>VW a
 | _=>none
def Y4{n:Nat}{L:List Ob}:∀(r:AV) {rows:List (List AV)},zI (List.replicate n .gone++L) r=some rows->∀id,VW r=some id->n<=id
 | .tl id st,rows,h,i,hi=>by
   injection hi with hi;subst hi;apply Classical.byContradiction;intro c
   have:(List.replicate n Ob.gone++L)[id]? =some .gone:=by
    rw[zH (by rw[qu];omega),List.getElem?_replicate,if_pos zb]
   rw[jR,this] at h;cases h
 | .vw a e i k,rows,h,id,hi=>by
   rw[xX] at h;cases b:zI (List.replicate n .gone++L) a with
   | none=>rw[b] at h;cases h
   | some ys=>exact Y4 a b id hi
 | .v _,_,_,_,hi | .sl _ _,_,_,_,hi | .em,_,_,_,hi | .ptr _ _,_,_,_,hi | .ep _ _ _ _,_,_,_,hi | .mp _,_,_,_,hi | .ag _,_,_,_,hi | .tup _,_,_,_,hi | .fn _ _ _,_,_,_,hi | .bad,_,_,_,hi=>by cases hi
section
variable {B:Nat} {w:World} {g:Gh} {h L:List Ob}
def jQa{b:Nat}(k:kept g h b):kept g (h++L) b:=by
 obtain⟨i,o,a,c⟩:=k;exact⟨i,o,zk a,c⟩
def J5(G:HOk B w g (h++L)):∀(r:AV) {A:Addr} {n k:Nat} {rows:List (List AV)} {e:Nat},AR (ctx w g (h++L)) r (.slice (some A) n k)->zI (h++L) r=some rows->eOf (h++L) r=some e->0<e->rows≠[]->(∀id,VW r=some id->h.length<=id)->¬ kept g h A.block
 | .sl y xs,A,n,k,rows,e,l,b,f,h0,j,d=>by
   obtain⟨S,k',t,Y,H⟩:=l;injection t with t s M;subst t;injection b with b;subst b;injection f with f;subst f;cases xs with
   | nil=>exact absurd rfl j
   | cons x xs=>
     obtain⟨⟨O,F⟩,_⟩:=H;cases x with
     | nil=>simp at O;omega
     | cons c x=>
       obtain⟨⟨J,u,C,T,_⟩,_⟩:=F;injection C with C;subst C;intro U;refine T.1 ?_;have:(A.add (0*y)).block=A.block:=(by unfold Addr.add;split<;>rfl);rw[this];exact jQa U
 | .tl id st,A,n,k,rows,e,l,b,f,h0,j,d=>by
   rw[jR] at b;obtain⟨ty,y,K⟩:=Yg b;have F:=ZB l K;rintro ⟨i,p,N,hb⟩;have W:=xP N;have hid:=d id rfl;refine G.apart i id p _ A.block zb (zk N) K hb ?_;show(g.cur id).ownBlock=_;rw[<-F];rfl
 | .vw a y i m,A,n,k,rows,e,l,b,f,h0,j,d=>by
   obtain⟨A0,m0,cp,S,k',t,Y,H,s,M,_⟩:=l;rw[xX] at b;rw[JO] at f;cases E:zI (h++L) a with
   | none=>rw[E] at b;cases b
   | some ys=>
     rw[E] at b;simp only[Option.bind_some] at b;split at b
     ·rename_i D;injection b with b;cases o:eOf (h++L) a with
      | none=>rw[o] at f;cases f
      | some Q=>
        have I:0<m:=by
         apply Classical.byContradiction;intro I;have:m=0:=zb;subst this;rw[List.take_zero] at b;exact j b.symm
        have z:ys≠[]:=by
         intro P;subst P;simp at D;omega
        have V:Q=y/\y=e:=by
         rw[o] at f;simp only[Option.bind_some] at f;split at f
         ·rename_i q;injection f with f;exact⟨q,f⟩
         ·cases f
        injection s with s h6 h7;subst h6;obtain⟨J,Z,R⟩:=M I;subst Z;have X:=J5 G a t E o zb z d;rw[R] at s;injection s with s;have:A.block=J.block:=(by rw[s];unfold Addr.add;split<;>rfl);rw[this];exact X
     ·cases b
 | .v x,A,n,k,rows,e,l,b,f,h0,j,d=>by
   have l:Value.slice (some A) n k=x:=l;subst l;cases b
 | .em,_,_,_,_,_,_,b,_,_,j,_=>by injection b with b;exact absurd b.symm j
 | .ptr _ _,_,_,_,_,_,_,b,_,_,_,_ | .ep _ _ _ _,_,_,_,_,_,_,b,_,_,_,_ | .mp _,_,_,_,_,_,_,b,_,_,_,_ | .ag _,_,_,_,_,_,_,b,_,_,_,_ | .tup _,_,_,_,_,_,_,b,_,_,_,_ | .fn _ _ _,_,_,_,_,_,_,b,_,_,_,_ | .bad,_,_,_,_,_,_,b,_,_,_,_=>by cases b
def KX(G:HOk B w g (h++L)){r:AV}{u:Value}{rows:List (List AV)}{e:Nat}(F:0<e)(I:AR (ctx w g (h++L)) r u)(C:SlOf (h++L) r e rows)(f:∀id,VW r=some id->h.length<=id)(P:jh h.length rows=true):AR (ctx w g h) (.sl e rows) u:=by
 obtain⟨A,k,D,H,M,R⟩:=rows_ok G r I C.rows;by_cases s:rows=[]
 ·subst s;exact⟨A,k,D,H,True.intro⟩
 have n:=C.ee s;have q:=M e n;refine⟨A,k,D,H,?_⟩
 have Q:∃a0,A=some a0:=by
  cases rows with
  | nil=>exact absurd rfl s
  | cons x xs=>
    have b:=q.len x zh;cases x with
    | nil=>simp at b;omega
    | cons c x=>
      obtain⟨J,E,p,_⟩:=q.cell 0 0 (c::x) c rfl rfl;exact⟨J,p⟩
 obtain⟨a0,rfl⟩:=Q;subst D;have t:=J5 G r I C.rows n F s f;have l:=wW w g h L
 have cells:∀(i:Nat) (x:List AV),rows[i]? =some x->qN h.length x=true->∀(y:List AV) (k0:Nat),(∀j a,y[j]? =some a->x[k0+j]? =some a)->qN h.length y=true->ACells (ctx w g h) (some a0) (i*e+k0) y:=by
  intro i x o _ y
  induction y with
  | nil=>intro _ _ _;trivial
  | cons c y v=>
    intro k0 m b;have b:c.lt h.length=true/\qN h.length y=true:=(by simpa [qN] using b);have K:=m 0 c rfl;rw[Nat.add_zero] at K;obtain⟨J,E,p,N,O⟩:=q.cell i k0 x c o K;injection p with p;subst p;refine⟨⟨a0,E,rfl,⟨?_,N⟩,AR.less l c E b.1 O⟩,?_⟩
    ·have:(a0.add (i*e+k0)).block=a0.block:=(by unfold Addr.add;split<;>rfl);rw[this];exact t
    ·have:=v (k0+1) (λj a d=>by
      have:=m (j+1) a d;rw[show k0+(j+1)=k0+1+j by omega] at this;exact this) b.2
     rw[show i*e+k0+1=i*e+(k0+1) by omega];exact this
 have all:∀(ys:List (List AV)) (i:Nat),(∀j x,ys[j]? =some x->rows[i+j]? =some x)->jh h.length ys=true->ARows (ctx w g h) (some a0) e i ys:=by
  intro ys
  induction ys with
  | nil=>intro _ _ _;trivial
  | cons x ys v=>
    intro i m b;have b:qN h.length x=true/\jh h.length ys=true:=(by simpa [jh] using b);have o:=m 0 x rfl;rw[Nat.add_zero] at o
    refine⟨⟨q.len x (ja o),?_⟩,v (i+1) (λj z d=>by
     have:=m (j+1) z d;rw[show i+(j+1)=i+1+j by omega] at this;exact this) b.2⟩
    have:=cells i x o b.1 x 0 (λj a d=>by rw[Nat.zero_add];exact d) b.1;simpa using this
 exact all rows 0 (λj x d=>by rw[Nat.zero_add];exact d) P
end
def New.root{h L:List Ob}{e:Nat}{x:AV}{rows:List (List AV)}(k:New h e x rows L):∀id,VW x=some id->h.length<=id:=
 Y4 (L:=L) x (k (List.replicate h.length .gone) zh).rows
variable {P:Program} {f:FuncId} {ar:List AV} {h:List Ob}
def wv{e:Nat}{rows:List (List AV)}(p:0<e)(n:jh h.length rows=true)(c:ACalls P f ar h λr h'=>∃L,h'=h++L/\NoRes L/\New h e r rows L):ACalls P f ar h λr h'=>r= .sl e rows/\h'=h:=by
 refine⟨c.1,⟨_,_,⟨rfl,rfl⟩,.refl⟩,λφ l B w g vs k hB b=>?_⟩;refine(c.2.2 φ l B w g vs k hB b).mono λq w' ⟨v,r,h',g',o,⟨L,m,_,i⟩,_,d,j⟩=>?_;subst m;rw[wh l] at d j;have a:(fill φ h).length=h.length:=jH;refine⟨v,_,h,g',o,⟨rfl,rfl⟩,.refl,d.drop rfl (by have:=k.ids;exact this),?_⟩;refine KX d.ok p j (i _ a) (λid hid=>by rw[a];exact i.root id hid) (by rw[a];exact n)
def QW{e d:Nat}{rows b:List (List AV)}(s:0<e)(C:0<d)(G:jh h.length rows=true)(k:jh h.length b=true)(c:ACalls P f ar h λr h'=>∃L y z,h'=h++L/\NoRes L/\r= .tup [y,z]/\New h e y rows L/\New h d z b L):ACalls P f ar h λr h'=>r= .tup [.sl e rows,.sl d b]/\h'=h:=by
 refine⟨c.1,⟨_,_,⟨rfl,rfl⟩,.refl⟩,λφ n B w g vs m hB i=>?_⟩;refine(c.2.2 φ n B w g vs m hB i).mono λI w' ⟨v,r,h',g',A,⟨L,y,z,x,_,p,n1,n2⟩,_,j,o⟩=>?_;subst x p;rw[wh n] at j o;have a:(fill φ h).length=h.length:=jH;obtain⟨u,rfl,D,H,F,a1,E,q,t,a2,l⟩:=o;have l:q=[]:=l;subst l t;refine⟨_,_,h,g',A,⟨rfl,rfl⟩,.refl,j.drop rfl (by have:=m.ids;exact this),u,rfl,?_⟩;rw[F];exact⟨D,_,rfl,KX j.ok s a1 (n1 _ a) (λid hid=>by rw[a];exact n1.root id hid) (by rw[a];exact G),E,_,rfl,KX j.ok C a2 (n2 _ a) (λid hid=>by rw[a];exact n2.root id hid) (by rw[a];exact k),rfl⟩
def Qc{rs:List ResultVar}{T:Env}{h0 h':List Ob}{ty e:Nat}{x:AV}{rows:List (List AV)}(c:Xx P T h' rs=some x)(d:Pre h0 h')(b:OwnS h0 h' ty e x rows):Jy P rs h0 (λr h''=>∃L,h''=h0++L/\NoRes L/\New h0 e r rows L) .ret T h':=by
 obtain⟨L,rfl,a⟩:=d;exact⟨x,c,.inl ⟨L,rfl,a,b.new (zB _)⟩⟩
end Go.Proofs.YtjeehgkolepogaaGreat.Ax
namespace Go.Proofs.YtjeehgkolepogaaGreat.Ax
open Go Go.Proofs Go.RowKit
set_option maxRecDepth 100000
def qO{α:Type}(f:α->List AV){l:List α}{n:Nat}(h:n<l.length):(l.map f)[n]? =some (f l[n]):=by rw[zw,zg h];rfl
def ypa(h:List Ob)(s:Spn)(t:Int):ACalls Tryz.prog 151 [.ag (qF s),i64 t] h λr h'=>r=bl (inR s t)/\h'=h:=by
 refine enterSX Tryz.f151 λB=>?_
 repeat' (refine ways (λe=>?_) (λe=>?_)<;>(first|replace e:=qZ e|replace e:=qY e)<;>simp only[go_sem,e])
 all_goals refine zm ?_<;>(simp only[go_sem,inR, *]<;>try rfl)
def qla{l:List Spn}{t:Int}{k:Nat}(a:Qv (l.take k) t=false)(b:l.length<=k):Qv l t=false:=by
 rw[List.take_of_length_le b] at a;exact a
def r3Has(h:List Ob)(x:AV)(l:List Spn)(t:Int)(p:SlOf h x 2 (l.map qF))(s:l.length<1099511627776):
    ACalls Tryz.prog 134 [x,i64 t] h λr h'=>r=bl (Qv l t)/\h'=h:=by
 have f:=p.rows;refine enterSX Tryz.f134 λB=>?_
 refine wp_loop_a ze (λm T h'=>h'=h/\∃k:Nat,k<=l.length/\Qv (l.take k) t=false/\T 0=x/\T 1=i64 t/\T 5=i64 k/\m=l.length - k) l.length
  ⟨rfl,0,zb,rfl,zo,zo,by(simp only[go_sem]<;>rfl),rfl⟩ ?_
 rintro m T h' ⟨rfl,k,u,a,t0,t1,t5,rfl⟩;simp only[go_sem,t5,t0,f,zc];refine ways (λe=>?_) (λe=>?_)
 ·have b:=dlt e;have c:=qO qF b;have n:=p.at (i:=k) (by simpa using b);have j:(k:Int)<l.length:=zb;have g:l.take (k+1)=l.take k++[l[k]]:=(zG b).symm;have d:=zx b;obtain⟨y,q⟩:∃y,y=l[k]:=⟨_,rfl⟩;rw[<-q] at c g d;simp only[go_sem,t5,t0,t1,c,j,n,f,zc,Int.toNat_natCast,zd];refine qI (ypa _ y t) ?_;refine ways (λo=>?_) (λo=>?_)
  ·have:Qv l t=true:=List.any_eq_true.2 ⟨y,d,o⟩;refine zz ?_;exact zm (by simp only[go_sem,this]<;>try rfl)
  ·simp only[go_sem,t5];refine⟨l.length - (k+1),zb,k+1,zb,?_,t0,t1,qh zb rfl,rfl⟩;rw[g];unfold Qv at a⊢;rw[List.any_append,a];simp[o]
 ·have:=qla a (jO e);refine zz ?_;exact zm (by simp only[go_sem,this]<;>try rfl)
def r3Aft(h:List Ob)(x:AV)(l:List Spn)(t:Int)(s:SlOf h x 2 (l.map qF))(w:l.length<1099511627776):
    ACalls Tryz.prog 133 [x,i64 t] h λr h'=>r=i64 (yv l t)/\h'=h:=by
 have b:=s.rows;refine enterSX Tryz.f133 λB=>?_
 refine wp_loop_a ze (λm T h'=>h'=h/\∃k:Nat,k<=l.length/\T 0=x/\T 1=i64 t/\T 5=i64 (yv (l.take k) t)/\T 6=i64 k/\m=l.length - k) l.length
  ⟨rfl,0,zb,zo,zo,by(simp only[go_sem]<;>rfl),by(simp only[go_sem]<;>rfl),rfl⟩ ?_
 rintro m T h' ⟨rfl,k,z,t0,t1,t5,t6,rfl⟩;simp only[go_sem,t6,t0,b,zc];refine ways (λe=>?_) (λe=>?_)
 ·have g:=dlt e;have a:=qO qF g;have f:=s.at (i:=k) (by simpa using g);have d:(k:Int)<l.length:=zb
  have c:yv (l.take (k+1)) t=Qb t (yv (l.take k) t) l[k]:=by
   rw[<-zG g];unfold yv;rw[qK];rfl
  obtain⟨y,u⟩:∃y,y=l[k]:=⟨_,rfl⟩;rw[<-u] at a c;obtain⟨o,v⟩:∃o,o=yv (l.take k) t:=⟨_,rfl⟩;rw[<-v] at c t5;have fin:k+1<=l.length:=zb;have q:=qh (k:=k) zb rfl;simp only[go_sem,t5,t6,t0,t1,a,d,f,b,zc,Int.toNat_natCast,zd];refine ways (λp=>?_) (λp=>?_)<;>(simp only[go_sem,t5,t6,t0,t1,a,d,f,b,zc,Int.toNat_natCast,zd,kB];refine ways (λj=>?_) (λj=>?_))<;>(simp only[go_sem,t5,t6,t0,t1,a,d,f,b,zc,Int.toNat_natCast,zd,kB];simp only[decide_eq_true_eq,decide_eq_false_iff_not] at p j;exact⟨l.length - (k+1),zb,k+1,fin,by(rw[c];unfold Qb;simp only[if_pos,if_neg,p,j,not_false_eq_true]),q,rfl⟩)
 ·have n:k=l.length:=by have:=jO e;omega
  subst n;rw[qR] at t5;simp only[go_sem,t5];exact qt
def yw{n:Nat}:∀l:List Spn,jh n (l.map qF)=true
 | []=>rfl
 | e::l=>by
   rw[List.map_cons,jh,yw l];rfl
def QY{α:Type}(l:List α):l=[]∨∃D c,l=D++[c]:=by
 rcases List.eq_nil_or_concat l with h|⟨D,c,h⟩
 ·exact .inl h
 ·exact .inr ⟨D,c,by rw[h,List.concat_eq_append]⟩
set_option maxHeartbeats 2000000 in
def r3Of0(h:List Ob)(x:AV)(l:List Spn)(hx:SlOf h x 2 (l.map qF))(hl:l.length<1099511627776):
    ACalls Tryz.prog 103 [x,.v (.slice none 0 0),bl false] h λr h'=>∃L,h'=h++L/\NoRes L/\New h 2 r ((xo l).map qF) L:=by
 have hex:∃r h',(∃L,h'=h++L/\NoRes L/\New h 2 r ((xo l).map qF) L)/\ResK h h':=
  ⟨.sl 2 _,_,⟨[],rfl,kR,λ_ _=>⟨rfl,λ_=>rfl⟩⟩,jp⟩
 refine enterSX Tryz.f103 (λB=>?_) (hex)
 refine wp_loop_a ze (λm T h'=>∃(t:Int) (out:List Spn),Pre h h'/\OwnS h h' 86 2 (T 7) (out.map qF)/\SwI l t out/\(out.length:Int)<=t/\T 0=x/\T 1= .v (.slice none 0 0)/\T 2=bl false/\T 8=i64 t/\m=(32054400 - t).toNat) 32054400
  ⟨0,[],Pre.refl,.inl ⟨zo,rfl⟩,SwI.none l,zh,zo,zo,zo,zo,rfl⟩ ?_
 rintro m T h' ⟨t,out,w,X,i,N,t0,t1,t2,n,rfl⟩
 have Q:SlOf h' x 2 (l.map qF):=by
  obtain⟨L,rfl,_⟩:=w;exact hx.app _
 simp only[go_sem,n];refine ways (λe=>?_) (λe=>?_)
 ·have P:=of_decide_eq_true e;have α:=i.next P;obtain⟨a,b⟩:∃a,a=yv l t:=⟨_,rfl⟩;rw[<-b] at α;have W:min a 32054400=a:=zb;have p:yv [] t=32054400:=rfl;have o:Qv [] t=false:=rfl;have ε:=i.t0;simp only[go_sem,n,t0,t1,t2];refine zl (r3Aft _ x l t Q hl) ?_;rintro _ V ⟨rfl,rfl⟩;simp only[go_sem,n,t0,t1,t2];refine zl (r3Aft _ _ [] t Xe zh) ?_;rintro _ V ⟨rfl,rfl⟩;simp only[go_sem,n,t0,t1,t2,p,kB, <-b,W];refine zl (r3Has _ x l t Q hl) ?_;rintro _ V ⟨rfl,rfl⟩;cases S:Qv l t with
  | false=>
    simp only[go_sem,n,t0,t1,t2,qv];exact⟨(32054400 - a).toNat,zb,a,out,w,X,by rw[b];exact i.skip P S,zb,rfl,rfl⟩
  | true=>
    simp only[go_sem,n,t0,t1,t2,qv];refine zl (r3Has _ _ [] t Xe zh) ?_;rintro _ V ⟨rfl,rfl⟩;have U:(32054400 - a).toNat<(32054400 - t).toNat:=zb;rcases X with⟨K,Y⟩|⟨id,st,I,K,H⟩
    ·have Y:=List.map_eq_nil_iff.1 Y;subst Y;have F:decide ((0:Int)>0)=false:=rfl;simp only[go_sem,n,t0,t1,t2,K,o,qv,F];refine⟨(32054400 - a).toNat,U,a,[⟨t,a⟩],w.app (zA rfl (zW rfl)),.inr ⟨_,_,by have:=w.len;omega,rfl,?_⟩,?_,zE,rfl,rfl⟩
     ·rw[qa rfl];rfl
     ·have:=i.push P S (λ_ h=>by cases h);rw[<-b] at this;exact this
    ·have C:∀M,(V++M)[id]? =some (.row 86 2 (out.map qF) st):=λM=>zk H;have γ:(out.length+1)*17<=140737488355328:=zb;have R:(out.map qF).length=out.length:=zc ..;by_cases f:∃D c,out=D++[c]/\c.to_=t
     ·obtain⟨D,c,rfl,O⟩:=f;simp only[zp,List.length_singleton] at N
      have E:wr (((D.length+1:Nat):Int) - 1)=(D.length:Int):=by
       rw[qb qg];omega
      have A:decide (((D.length+1:Nat):Int)>0)=true:=zh;have k:((D++[c]).map qF).length=D.length+1:=zh;have j:((D++[c]).map qF)[D.length]? =some (qF c):=zh;have y:(D.length:Int)<((D.length+1:Nat):Int):=zb;have g:(c.to_==t)=true:=(by simp[O]);have s:((D++[c]).map qF).set D.length [i64 c.from_,i64 a]=(D++[(⟨c.from_,a⟩:Spn)]).map qF:=zh;have J:=i.grow P S O;rw[<-b] at J;clear R;obtain⟨rows,d⟩:∃rows,rows=(D++[c]).map qF:=⟨_,rfl⟩;rw[<-d] at C k j s H;simp only[go_sem,n,t0,t1,t2,K,o,qv,C,H,A,E,k,j,y,g,Int.toNat_natCast,zd];refine⟨(32054400 - a).toNat,U,a,D++[⟨c.from_,a⟩],w.set I rfl,.inr ⟨id,st,I,rfl,?_⟩,J,zE,rfl,rfl⟩;rw[<-s];exact zt H
     ·have G:=i.push P S (λz p q=>by
       rcases QY out with rfl|⟨D,c,rfl⟩
       ·cases p
       ·have u:=i.plain.gap;rw[qo] at u;rcases zV.1 p with p|p
        ·have g1:=u.2.2 z p c zh;have g2:=i.plain.pos c zh;have g3:=i.le c zh;omega
        ·exact f ⟨D,c,rfl,by rw[qA.1 p] at q;exact q⟩)
      rw[<-b] at G;rcases QY out with rfl|⟨D,c,rfl⟩
      ·have F:decide ((0:Int)>0)=false:=rfl;have Z:(0+1)*17<=140737488355328:=ze;simp only[go_sem,n,t0,t1,t2,K,o,qv,C,H,F,List.map_nil,List.length_nil,Z];exact⟨(32054400 - a).toNat,U,a,[⟨t,a⟩],(w.app (zW rfl)).set I rfl,.inr ⟨id,st+1,I,rfl,zt (C _)⟩,G,zE,rfl,rfl⟩
      ·simp only[zp,List.length_singleton] at N;have g:(c.to_==t)=false:=beq_false_of_ne λq=>f ⟨D,c,rfl,q⟩
       have E:wr (((D.length+1:Nat):Int) - 1)=(D.length:Int):=by
        rw[qb qg];omega
       have A:decide (((D.length+1:Nat):Int)>0)=true:=zh;have k:((D++[c]).map qF).length=D.length+1:=zh;have j:((D++[c]).map qF)[D.length]? =some (qF c):=zh;have y:(D.length:Int)<((D.length+1:Nat):Int):=zb;have Z:(D.length+1+1)*17<=140737488355328:=zb;clear R;obtain⟨rows,d⟩:∃rows,rows=(D++[c]).map qF:=⟨_,rfl⟩;rw[<-d] at C k j H;simp only[go_sem,n,t0,t1,t2,K,o,qv,C,H,A,E,k,j,y,g,Z,Int.toNat_natCast,zd];refine⟨(32054400 - a).toNat,U,a,(D++[c])++[⟨t,a⟩],(w.app (zW rfl)).set I rfl,.inr ⟨id,st+1,I,rfl,?_⟩,G,zE,rfl,rfl⟩;rw[zD, <-d];exact zt (C _)
 ·have he:=of_decide_eq_false e;have δ:=i.tm;have h0:t=32054400:=zb;subst h0;rw[<-i.done];refine zz ?_;exact Qc zo w X
def r3Of(h:List Ob)(x:AV)(l:List Spn)(a:SlOf h x 2 (l.map qF))(b:l.length<1099511627776):
    ACalls Tryz.prog 103 [x,.v (.slice none 0 0),bl false] h λr h'=>r= .sl 2 ((xo l).map qF)/\h'=h:=
 wv ze (yw _) (r3Of0 h x l a b)
def r3Norm(h:List Ob)(x:AV)(l:List Spn)(a:SlOf h x 2 (l.map qF))(b:l.length<1099511627776):
    ACalls Tryz.prog 56 [x] h λr h'=>r= .sl 2 ((xo l).map qF)/\h'=h:=by
 refine enterSX Tryz.f56 λB=>?_;refine qI (r3Of _ x l a b) ?_;exact qt
end Go.Proofs.YtjeehgkolepogaaGreat.Ax
namespace Go.Proofs.YtjeehgkolepogaaGreat.Ax
open Go Go.Proofs
def vJa(e:Ev):Bool:=decide (e.id<0) || (decide (e.id>100000) || (decide (e.worker<0) || (decide (e.at_<0) || (decide (e.at_>31449599) || (decide (e.kind<1) || decide (e.kind>7))))))
def vKa(e:Ev):Int:=min (min (min (min (min (min e.from_ e.to_) e.element) e.units) e.class_) e.gear) e.code
def vLa(e:Ev):Int:=max (max (max (max (max e.from_ e.to_) e.element) e.units) e.class_) e.gear
def X9(e:Ev):Bool:= !vJa e && (!decide (vKa e<0) && ((e.kind==3 || vLa e==0) && (e.kind==4 || e.code==0)))
def V3(e:Ev):vJa e=false↔(0<=e.id/\e.id<=100000)/\0<=e.worker/\(0<=e.at_/\e.at_<=31449599)/\1<=e.kind/\e.kind<=7:=by
 unfold vJa;simp only[zU,decide_eq_false_iff_not];omega
def qma{k:Int}:ZL k=true↔1<=k/\k<=7:=by
 refine⟨J9,λh=>?_⟩;have:k=1∨k=2∨k=3∨k=4∨k=5∨k=6∨k=7:=zb;rcases this with rfl|rfl|rfl|rfl|rfl|rfl|rfl<;>rfl
def Ym{n m:Int}:vW n m=true↔0<=n/\n<=m:=by
 unfold vW;rw[zi,decide_eq_true_eq,decide_eq_true_eq]
def qna(e:Ev):jW e=true↔(0<=vKa e/\(e.kind=3∨vLa e=0)/\(e.kind=4∨e.code=0)):=by
 unfold jW vKa vLa;by_cases b:e.kind=3
 ·rw[if_pos b];simp only[zi,Bool.not_eq_true',decide_eq_false_iff_not,beq_iff_eq];omega
 ·rw[if_neg b];by_cases a:e.kind=4
  ·rw[if_pos a];simp only[zi,Bool.not_eq_true',decide_eq_false_iff_not,beq_iff_eq];omega
  ·rw[if_neg a];simp only[zi,Bool.not_eq_true',decide_eq_false_iff_not,beq_iff_eq];omega
def jUa(e:Ev):X9 e=qV e:=by
 rw[Bool.eq_iff_iff];unfold X9 qV;simp only[zi,Bool.not_not,Bool.not_eq_true',V3,qma,Ym,qna,decide_eq_false_iff_not,Bool.or_eq_true,beq_iff_eq];omega
def jVa(s:Setup)(e:Ev):Bool:=
 X9 e && (decide (e.worker<(s.rates.length:Int)) &&
  (if e.kind=3 then decide (e.from_<s.places) && (decide (e.to_<s.places) && (decide (e.element<(s.elements.length:Int)) && (decide (e.class_<(s.classes.length:Int)) && (decide (e.gear<(s.gears.length:Int)) && decide (e.units<=10000)))))
  else decide (e.code<=99)))
def Y7(s:Setup)(e:Ev):jVa s e=km s e:=by
 rw[Bool.eq_iff_iff];unfold jVa km;rw[jUa]
 have d:∀l:List (Int × Int),vX l=true↔∀p∈l,p.1<p.2:=λl=>by
  unfold vX;rw[zY];constructor
  ·intro h p f;have:=h p f;rw[Bool.not_eq_true',decide_eq_false_iff_not] at this;omega
  ·intro h p f;have:=h p f;rw[Bool.not_eq_true',decide_eq_false_iff_not];omega
 by_cases a:qV e=true
 ·have c:=(yX a).2.2.2.2;by_cases b:e.kind=3
  ·rw[if_pos b,if_pos b];simp only[a,Bool.not_true,Bool.not_false,Bool.true_and,Bool.not_not,zi,d,zK,List.not_mem_nil,or_false,forall_eq_or_imp,forall_eq,decide_eq_true_eq];omega
  ·rw[if_neg b,if_neg b];by_cases g:e.kind=4
   ·rw[if_pos g];simp only[a,Bool.not_true,Bool.not_false,Bool.true_and,Bool.not_not,zi,d,zK,List.not_mem_nil,or_false,forall_eq_or_imp,forall_eq,decide_eq_true_eq]
   ·rw[if_neg g];have:=c g;simp only[a,Bool.not_true,Bool.not_false,Bool.true_and,Bool.not_not,zi,d,zK,List.not_mem_nil,or_false,forall_eq_or_imp,forall_eq,decide_eq_true_eq];rw[and_true];exact⟨λh=>h.1,λh=>⟨h,zb⟩⟩
 ·have a:qV e=false:=by simpa using a
  rw[a];simp
def jw(p:zL):Bool:=(decide (p.1≥ -2147483647) && (decide (p.1<=2147483647) && (decide (p.2≥1) && decide (p.2<=2147483647)))) && ((Int.gcd p.1 p.2:Nat):Int)==1
def vt(p:zL):jw p=true↔Lo p:=by
 unfold jw;simp only[zi,decide_eq_true_eq,beq_iff_eq];constructor
 ·rintro ⟨⟨c,a,d,b⟩,e⟩;exact⟨zb,zb,⟨c,a⟩,b⟩
 ·intro h;obtain⟨c,a,⟨d,b⟩,e⟩:=h;exact⟨⟨d,b,zb,e⟩,by rw[a];rfl⟩
def kE(p:zL):jw p=rok p:=by
 rw[Bool.eq_iff_iff,vt];exact⟨Yn,y6⟩
def inN(n lo hi:Int):Bool:=decide (n≥lo) && decide (n<=hi)
def vB{n lo hi:Int}:inN n lo hi=true↔lo<=n/\n<=hi:=by
 unfold inN;rw[zi,decide_eq_true_eq,decide_eq_true_eq]
def vI{lo hi:Int}{l:List Int}:kY lo hi l=true↔∀n∈l,lo<=n/\n<=hi:=by
 unfold kY;rw[Bool.not_eq_true',List.any_eq_false];constructor
 ·intro h n a;have:=h n a;unfold Qq at this;simp only[Bool.or_eq_true,decide_eq_true_eq,not_or] at this;omega
 ·intro h n a;have:=h n a;unfold Qq;simp only[Bool.or_eq_true,decide_eq_true_eq,not_or];omega
def xI(p:zL):Bool:=jw p && decide (p.1≥0)
def Yo(p:zL):yn p= !xI p:=by
 unfold yn xI;rw[kE]
 have e:decide (p.1≥0)= !decide (p.1<0):=by
  by_cases h:p.1<0
  ·rw[decide_eq_true h,decide_eq_false zb];rfl
  ·rw[decide_eq_false h,decide_eq_true zb];rfl
 rw[e];cases rok p<;>cases decide (p.1<0)<;>rfl
def ka(l:List zL):Bool:=l.all xI
def yy(l:List zL):wI l=ka l:=by
 unfold wI ka;rw[List.not_any_eq_all_not];congr 1;funext p;rw[Yo,Bool.not_not]
def K5(pl:Int)(w:Way):Bool:=decide (w.1<0) || (decide (w.2.1<0) || (decide (w.1≥pl) || (decide (w.2.1≥pl) || (w.1==w.2.1 || (decide (w.2.2<1) || decide (w.2.2>10000))))))
def Qf(s:Setup):Bool:=s.ways.all (λw=> !K5 s.places w) && (decide ((s.ways.length:Int)<=64) && inN s.places 1 16)
def kra{pl:Int}(h:1<=pl/\pl<=16)(w:Way):vN pl w=K5 pl w:=by
 have c:wr (pl - 1)=pl - 1:=qb qg;rw[Bool.eq_iff_iff];unfold vN K5;rw[c];have b:=vI (lo:=0) (hi:=pl - 1) (l:=[w.1,w.2.1]);have a:=vI (lo:=1) (hi:=10000) (l:=[w.2.2]);simp only[zK,List.not_mem_nil,or_false,forall_eq_or_imp,forall_eq] at b a;simp only[Bool.or_eq_true,Bool.not_eq_true', <-Bool.not_eq_true,b,a,decide_eq_true_eq,beq_iff_eq];omega
def j3a(s:Setup):xA s=Qf s:=by
 unfold xA Qf;by_cases h:1<=s.places/\s.places<=16
 ·have a:kY 1 16 [s.places]=true:=by rw[vI];simpa using h
  have b:inN s.places 1 16=true:=vB.2 h;rw[a,b,Bool.true_and,Bool.and_true,Bool.and_comm, <-List.not_any_eq_all_not];congr 2;congr 1;funext w;rw[kra h]
 ·have a:kY 1 16 [s.places]=false:=by
   rw[<-Bool.not_eq_true,vI];simpa using h
  have b:inN s.places 1 16=false:=by rw[<-Bool.not_eq_true,vB];exact h
  rw[a,b];simp
def QZ(l:List Elt):Bool:=l.all (λe=>xI e.1 && xI e.2)
def Qg(s:Setup):Bool:=(QZ s.elements && decide ((s.elements.length:Int)<=8)) && ((ka s.classes && decide ((s.classes.length:Int)<=8)) && (ka s.gears && decide ((s.gears.length:Int)<=8)))
def j4a(l:List Elt):(!l.any yS)=QZ l:=by
 unfold QZ;rw[List.not_any_eq_all_not];congr 1;funext e;unfold yS;rw[yy];simp[ka]
def ksa{a b c m:Int}:jIa a b c<=m↔a<=m/\b<=m/\c<=m:=by
 unfold jIa;constructor
 ·intro h;split at h<;>split at h<;>omega
 ·intro h;split<;>split<;>omega
def Yp(s:Setup):kP s=(xI s.pace && Qg s):=by
 unfold kP Qg;rw[yy,yy,yy,j4a]
 have b:decide (jIa (s.elements.length:Int) s.classes.length s.gears.length<=8)=(decide ((s.elements.length:Int)<=8) && (decide ((s.classes.length:Int)<=8) && decide ((s.gears.length:Int)<=8))):=by
  rw[Bool.eq_iff_iff];simp only[zi,decide_eq_true_eq];exact ksa
 rw[b];have a:ka [s.pace]=xI s.pace:=by simp[ka]
 rw[a];cases xI s.pace<;>cases ka s.classes<;>cases ka s.gears<;>cases QZ s.elements<;>simp
def QC(s:Setup):Bool:=
 inN s.allow 0 100 && (inN s.unit 1 3600 && inN s.cap 60 57600) && ((inN s.paidBreak 0 86400 && (inN s.autoAfter 0 86400 && inN s.autoBreak 0 86400)) && ((inN s.nightFrom 0 86400 && (inN s.nightTo 0 86400 && inN s.fault 0 86400)) && (inN s.dayReg 0 s.dayOver && (decide (s.dayOver<=86400) && inN s.weekReg 0 604800))))
def qra(s:Setup):xY s=QC s:=by
 rw[Bool.eq_iff_iff];unfold xY QC;simp only[zi,vI,vB,decide_eq_true_eq,zK,List.not_mem_nil,or_false,forall_eq_or_imp,forall_eq];omega
def xJ:Option Int->List yH->Bool
 | _,[]=>false
 | o,t::l=>(!inN t.1 0 1000 || (!inN t.2 0 100000 || (match o with|none=>false|some p=>decide (t.1<=p)))) || xJ (some t.1) l
def Kd:∀(l:List yH) (p:Int),0<=p->jJ p l=xJ (some p) l
 | [],_,_=>rfl
 | t::l,p,b=>by
   rw[jJ,xJ];unfold vA
   have a:kY 0 100000 [t.2]=inN t.2 0 100000:=by
    rw[Bool.eq_iff_iff,vI,vB];simp
   rw[a];by_cases h:inN t.1 0 1000=true
   ·have hi:=vB.1 h;rw[Kd l t.1 hi.1,h];have:decide (t.1>1000)=false:=(by simpa using hi.2);rw[this];cases decide (t.1<=p)<;>cases inN t.2 0 100000<;>simp
   ·have hi:¬ (0<=t.1/\t.1<=1000):=λq=>h (vB.2 q)
    have:(decide (t.1<=p) || decide (t.1>1000))=true:=by
     rw[Bool.or_eq_true,decide_eq_true_eq,decide_eq_true_eq];omega
    rw[this,show inN t.1 0 1000=false by simpa using h];simp
def qsa(l:List yH):jJ (-1) l=xJ none l:=by
 cases l with
 | nil=>rfl
 | cons t l=>
   rw[jJ,xJ];unfold vA
   have b:kY 0 100000 [t.2]=inN t.2 0 100000:=by
    rw[Bool.eq_iff_iff,vI,vB];simp
   rw[b];by_cases h:inN t.1 0 1000=true
   ·have hi:=vB.1 h;rw[Kd l t.1 hi.1,h];have a:decide (t.1>1000)=false:=(by simpa using hi.2);have c:decide (t.1<= -1)=false:=(by rw[decide_eq_false_iff_not];omega);rw[a,c];cases inN t.2 0 100000<;>simp
   ·have hi:¬ (0<=t.1/\t.1<=1000):=λq=>h (vB.2 q)
    have:(decide (t.1<= -1) || decide (t.1>1000))=true:=by
     rw[Bool.or_eq_true,decide_eq_true_eq,decide_eq_true_eq];omega
    rw[this,show inN t.1 0 1000=false by simpa using h];simp
def wS(s:Setup):Bool:=s.rates.all (λr=>inN r 0 100000) && (!xJ none s.tiers && (inN s.rates.length 1 16 && (decide ((s.tiers.length:Int)<=8) && (inN s.diff 0 100000 && inN s.least 0 100000))))
def qta(s:Setup):kQ s=wS s:=by
 unfold kQ wS;rw[qsa,Bool.eq_iff_iff];simp only[zi,vI,vB,decide_eq_true_eq,zY,zK,List.not_mem_nil,or_false,forall_eq_or_imp,forall_eq];constructor
 ·rintro ⟨⟨⟨⟨⟨g,c⟩,b⟩,f,e⟩,a⟩,d⟩;exact⟨b,d,⟨zb,c⟩,a,f,e⟩
 ·rintro ⟨b,d,⟨g,c⟩,a,f,e⟩;exact⟨⟨⟨⟨⟨zb,c⟩,b⟩,f,e⟩,a⟩,d⟩
def vOa(s:Setup):Bool:=Qf s && (xI s.pace && (Qg s && (QC s && wS s)))
def kta(s:Setup):zX s=vOa s:=by
 unfold zX vOa;rw[j3a,Yp,qra,qta];cases Qf s<;>cases xI s.pace<;>cases Qg s<;>cases QC s<;>cases wS s<;>rfl
def qC(top:Int):List Ev->Nat × Int × Int
 | []=>(0,top,1)
 | x::r=>if x.at_>top then(0,top,1) else if x.kind=1 then(0,x.at_,2) else if x.kind=2 then(0,x.at_,0) else((qC top r).1+1,(qC top r).2)
def y7(a b:Int)(e:Ev):List Seg:=if a<b then [⟨a,b,wt e.kind,e.id,e.code⟩] else []
def pR(first last:Int):Int->List Ev->List Seg
 | _,[]=>[]
 | a,[e]=>y7 a last e
 | a,e::f::r=>y7 a (toP first last f.at_) e++pR first last (toP first last f.at_) (f::r)
def Wc(top:Int):∀r:List Ev,(qC top r).1<=r.length
 | []=>zB _
 | x::r=>by
   have:=Wc top r;unfold qC;split
   ·exact Nat.zero_le _
   ·split
    ·exact Nat.zero_le _
    ·split
     ·exact Nat.zero_le _
     ·simp only[List.length_cons];omega
def kr(q:Nat × Int × Int)(r:List Ev):List Ev:=if q.2.2=0 then r.drop (q.1+1) else r.drop q.1
def j5a(q:Nat × Int × Int)(r:List Ev):(kr q r).length<=r.length:=by
 unfold kr;split<;>(rw[List.length_drop];omega)
def jE(s:Setup):List Ev->List Seg × List Flg
 | []=>([],[])
 | e::r=>
   if e.kind=1 then
    (pR (qi e.at_ s.unit) (qi (qC (wr (e.at_+s.cap)) r).2.1 s.unit) (qi e.at_ s.unit) (e::r.take (qC (wr (e.at_+s.cap)) r).1)++(jE s (kr (qC (wr (e.at_+s.cap)) r) r)).1,
     (if(qC (wr (e.at_+s.cap)) r).2.2>0 then [⟨e.id,(qC (wr (e.at_+s.cap)) r).2.2⟩] else [])++(jE s (kr (qC (wr (e.at_+s.cap)) r) r)).2)
   else((jE s r).1,⟨e.id,3⟩::(jE s r).2)
termination_by l=>l.length
decreasing_by
 all_goals simp only[List.length_cons]
 all_goals first|omega|(have:=j5a (qC (wr (e.at_+s.cap)) r) r;omega)
def vPa(first last x:Int):first<=toP first last x:=by unfold toP;omega
def Xg(t:TellS)(a b:Int)(e:Ev):(kg t a b e).segs=t.segs++y7 a b e:=by
 unfold kg y7;split
 ·rfl
 ·rw[zJ]
def close_go{first last:Int}:∀(os:List Ev) (a:Int) (e:Ev) (t:TellS),first<=a->
    (kg (os.foldl (kH first last) (a,e,t)).2.2 (os.foldl (kH first last) (a,e,t)).1 (toP first last last) (os.foldl (kH first last) (a,e,t)).2.1).segs=t.segs++pR first last a (e::os)
 | [],a,e,t,h=>by
   show(kg t a (toP first last last) e).segs=t.segs++y7 a last e;rw[Xg];unfold y7 toP;by_cases b:a<last
   ·rw[if_pos zb,if_pos b,show max first (min last last)=last by omega]
   ·rw[if_neg zb,if_neg b]
 | f::os,a,e,t,h=>by
   rw[List.foldl_cons];have:=close_go (first:=first) (last:=last) os (toP first last f.at_) f (kg t a (toP first last f.at_) e) (vPa _ _ _);have c:kH first last (a,e,t) f=(toP first last f.at_,f,kg t a (toP first last f.at_) e):=rfl
   rw[c,this,Xg,zq];rfl
def yz(s:Setup)(t:TellS)(e:Ev)(os:List Ev)(at_:Int):(xx s t e os at_).segs=t.segs++pR (qi e.at_ s.unit) (qi at_ s.unit) (qi e.at_ s.unit) (e::os):=
 close_go os _ e t (Int.le_refl _)
def Xh(s:Setup)(t:TellS):TellS:=jo s t 32054400
structure IsR (t:TellS) (S:List Seg) (F:List Flg) (z:List Seg × List Flg):Prop where
 segs:t.segs=S++z.1
 flags:t.flags=F++z.2
def tell_both(s:Setup):∀(n:Nat) (r:List Ev),r.length<=n->
    (∀e∈r,wr (e.at_+s.cap)<32054400)->
    (∀S F,IsR (Xh s (r.foldl (j7 s) ⟨none,S,F⟩)) S F (jE s r))/\
    (∀e os S F,wr (e.at_+s.cap)<32054400->IsR (Xh s (r.foldl (j7 s) ⟨some (e,os),S,F⟩)) S F
     (pR (qi e.at_ s.unit) (qi (qC (wr (e.at_+s.cap)) r).2.1 s.unit) (qi e.at_ s.unit) (e::(os++r.take (qC (wr (e.at_+s.cap)) r).1))++(jE s (kr (qC (wr (e.at_+s.cap)) r) r)).1,
      (if(qC (wr (e.at_+s.cap)) r).2.2>0 then [⟨e.id,(qC (wr (e.at_+s.cap)) r).2.2⟩] else [])++(jE s (kr (qC (wr (e.at_+s.cap)) r) r)).2)):=by
 intro n
 induction n with
 | zero=>
   intro r t _;have t:r=[]:=zy zb;subst t;refine⟨λS F=>⟨?_,?_⟩,λe os S F m=>⟨?_,?_⟩⟩
   ·rw[jE];simp[Xh,jo]
   ·rw[jE];simp[Xh,jo]
   ·rw[List.foldl_nil];unfold Xh jo;simp only;rw[if_pos m,yz];simp[qC,kr,jE,xb]
   ·rw[List.foldl_nil];unfold Xh jo;simp only;rw[if_pos m];simp[qC,kr,jE,xb,xx]
 | succ n u=>
   intro r t i;cases r with
   | nil=>exact u [] (Nat.zero_le _) (λ_ h=>by cases h)
   | cons x r=>
     simp only[List.length_cons] at t;have v:=i x (.head _);obtain⟨q,p⟩:=u r zb (λe m=>i e (.tail _ m))
     have a:∀S F,IsR (Xh s ((x::r).foldl (j7 s) ⟨none,S,F⟩)) S F (jE s (x::r)):=λS F=>by
      rw[List.foldl_cons];by_cases b:x.kind=1
      ·have c:j7 s ⟨none,S,F⟩ x=⟨some (x,[]),S,F⟩:=by
        unfold j7;rw[if_pos b];rfl
       rw[c,jE,if_pos b];exact p x [] S F v
      ·have c:j7 s ⟨none,S,F⟩ x=⟨none,S,F++[⟨x.id,3⟩]⟩:=by
        unfold j7;rw[if_neg b];rfl
       rw[c,jE,if_neg b];obtain⟨d,g⟩:=q S (F++[⟨x.id,3⟩]);exact⟨d,by rw[g];simp⟩
     refine⟨a,λe os S F m=>?_⟩;rw[List.foldl_cons];by_cases l:x.at_>wr (e.at_+s.cap)
     ·have o:jo s ⟨some (e,os),S,F⟩ x.at_=⟨none,(xx s (xb ⟨some (e,os),S,F⟩ e 1) e os (wr (e.at_+s.cap))).segs,F++[⟨e.id,1⟩]⟩:=by
       unfold jo;simp only;rw[if_pos l];rfl
      have c:j7 s ⟨some (e,os),S,F⟩ x=j7 s ⟨none,(xx s (xb ⟨some (e,os),S,F⟩ e 1) e os (wr (e.at_+s.cap))).segs,F++[⟨e.id,1⟩]⟩ x:=by
       unfold j7;rw[o];rfl
      have k:qC (wr (e.at_+s.cap)) (x::r)=(0,wr (e.at_+s.cap),1):=by
       unfold qC;rw[if_pos l]
      have:=a (xx s (xb ⟨some (e,os),S,F⟩ e 1) e os (wr (e.at_+s.cap))).segs (F++[⟨e.id,1⟩]);rw[List.foldl_cons] at this;obtain⟨d,g⟩:=this;rw[c,k];refine⟨?_,?_⟩
      ·rw[d,yz];simp[kr,xb]
      ·rw[g];simp[kr]
     ·have o:jo s ⟨some (e,os),S,F⟩ x.at_=⟨some (e,os),S,F⟩:=by
       unfold jo;simp only;rw[if_neg l]
      by_cases b:x.kind=1
      ·have k:qC (wr (e.at_+s.cap)) (x::r)=(0,x.at_,2):=by
        unfold qC;rw[if_neg l,if_pos b]
       have:=a (xx s (xb ⟨some (e,os),S,F⟩ e 2) e os x.at_).segs (F++[⟨e.id,2⟩]);rw[List.foldl_cons] at this
       have c:j7 s ⟨some (e,os),S,F⟩ x=j7 s ⟨none,(xx s (xb ⟨some (e,os),S,F⟩ e 2) e os x.at_).segs,F++[⟨e.id,2⟩]⟩ x:=by
        unfold j7;rw[o,if_pos b,if_pos b];rfl
       obtain⟨d,g⟩:=this;rw[c,k];refine⟨?_,?_⟩
       ·rw[d,yz];simp[kr,xb]
       ·rw[g];simp[kr]
      ·by_cases f:x.kind=2
       ·have k:qC (wr (e.at_+s.cap)) (x::r)=(0,x.at_,0):=by
         unfold qC;rw[if_neg l,if_neg b,if_pos f]
        have c:j7 s ⟨some (e,os),S,F⟩ x=⟨none,(xx s ⟨some (e,os),S,F⟩ e os x.at_).segs,F⟩:=by
         unfold j7;rw[o,if_neg b];simp only;rw[if_pos f];rfl
        obtain⟨d,g⟩:=q (xx s ⟨some (e,os),S,F⟩ e os x.at_).segs F;rw[c,k];refine⟨?_,?_⟩
        ·rw[d,yz];simp[kr]
        ·rw[g];simp[kr]
       ·have k:qC (wr (e.at_+s.cap)) (x::r)=((qC (wr (e.at_+s.cap)) r).1+1,(qC (wr (e.at_+s.cap)) r).2):=by
         rw[qC,if_neg l,if_neg b,if_neg f]
        have c:j7 s ⟨some (e,os),S,F⟩ x=⟨some (e,os++[x]),S,F⟩:=by
         unfold j7;rw[o,if_neg b];simp only;rw[if_neg f]
        obtain⟨d,g⟩:=p e (os++[x]) S F m
        have j:kr ((qC (wr (e.at_+s.cap)) r).1+1,(qC (wr (e.at_+s.cap)) r).2) (x::r)=kr (qC (wr (e.at_+s.cap)) r) r:=by
         unfold kr;rfl
        rw[c,k,j];refine⟨?_,?_⟩
        ·rw[d,zq os [x]];rfl
        ·rw[g]
def Ke{s:Setup}{w:Int}:∀(l:List Ev) (t:TellS),l.foldl (vF s w) t=(l.filter (jU s w)).foldl (j7 s) t
 | [],_=>rfl
 | e::l,t=>by
   rw[List.foldl_cons,Ke l,List.filter_cons];unfold vF;cases jU s w e<;>rfl
def Yq{s:Setup}{l:List Ev}{w:Int}(b:zX s=true)(h:∀e∈(zS l).filter (jU s w),wr (e.at_+s.cap)<32054400):qq s l w=jE s ((zS l).filter (jU s w)):=by
 obtain⟨a,c⟩:=(tell_both s _ _ (zB _) h).1 [] [];unfold qq goP;rw[if_pos b,Ke];exact Prod.ext a c
def yA(x:Ev):List Ev->List Ev
 | []=>[x]
 | z::S=>if ltE x z then x::z::S else z::yA x S
def vQa{a b c:Ev}(d:ltE a b=true)(e:ltE b c=true):ltE a c=true:=by
 rw[xw] at*
 omega
def j6a{a b c:Ev}(d:ltE a b=false)(e:ltE b c=false):ltE a c=false:=by
 cases h:ltE a c
 ·rfl
 ·rw[<-Bool.not_eq_true] at d e;rw[xw] at*
  omega
def Wd(x y:Ev):∀S:List Ev,xD y (yA x S)=yA x (xD y S)
 | []=>by
   simp only[yA,xD]
 | z::S=>by
   have d:=Wd x y S;rw[yA,xD];by_cases b:ltE x z=true
   ·rw[if_pos b];by_cases a:ltE z y=true
    ·rw[if_pos a,yA,if_pos b,xD,if_pos (vQa b a),xD,if_pos a]
    ·rw[if_neg a,yA,xD];by_cases c:ltE x y=true
     ·rw[if_pos c,if_pos c,xD,if_neg a]
     ·rw[if_neg c,if_neg c,yA,if_pos b]
   ·rw[if_neg b,xD];by_cases a:ltE z y=true
    ·rw[if_pos a,if_pos a,yA,if_neg b,d]
    ·rw[if_neg a,if_neg a,yA,yA,if_neg b];have c:ltE x y=false:=j6a (by simpa using b) (by simpa using a);rw[c];rfl
def Xi(x:Ev):∀l:List Ev,zS (l++[x])=yA x (zS l)
 | []=>rfl
 | y::l=>by
   rw[List.cons_append,zS,Xi x l,Wd];rfl
def zaa{x:Ev}:∀ {A B:List Ev},(∀y∈A,ltE x y=false)->(∀y∈B,ltE x y=true)->yA x (A++B)=A++x::B
 | [],[],_,_=>rfl
 | [],y::B,_,hB=>by
   rw[List.nil_append,yA,if_pos (hB y (.head _))];rfl
 | z::A,B,a,hB=>by
   rw[List.cons_append,yA,a z (.head _),zaa (λy b=>a y (.tail _ b)) hB];rfl
def j7a{x:Ev}{S:List Ev}{k:Nat}(i:Srt S)(s:k<=S.length)(m:∀j (h:j<S.length),k<=j->ltE x S[j]=true)(o:∀(h:k - 1<S.length),0<k->ltE x S[k - 1]=false):yA x S=S.take k++x::S.drop k:=by
 have e:S=S.take k++S.drop k:=(qc k S).symm;have c:=i;rw[e,jN] at c;obtain⟨q,p,r⟩:=c;rw[e];rw[zaa (A:=S.take k) (B:=S.drop k) (λy f=>?_) λy f=>?_]
 ·rw[<-e]
 ·obtain⟨j,g,rfl⟩:=List.mem_iff_getElem.1 f;rw[zT] at g;rw[List.getElem_take];have a:=o zb zb;by_cases d:j=k - 1
  ·subst d;exact a
  ·have l:ltE S[k - 1] S[j]=false:=by
    have n:S=S.take (k - 1)++S.drop (k - 1):=(qc _ S).symm;have b:=i;rw[n,jN] at b;refine b.2.2 S[j] ?_ S[k - 1] ?_
    ·rw[List.mem_iff_getElem];exact⟨j,by rw[zT];omega,by rw[List.getElem_take]⟩
    ·rw[List.mem_iff_getElem];exact⟨0,by rw[List.length_drop];omega,by rw[List.getElem_drop];simp⟩
   exact j6a a l
 ·obtain⟨j,g,rfl⟩:=List.mem_iff_getElem.1 f;rw[List.length_drop] at g;rw[List.getElem_drop];exact m (k+j) zb zb
def QD(t u:Int):Int:=
 if u<1 then min (max t 0) 32054400 else
  if(min (max t 0) 32054400).tmod u≥wr (u - (min (max t 0) 32054400).tmod u) then min (wr (wr (min (max t 0) 32054400 - (min (max t 0) 32054400).tmod u)+min u 100000000)) 32054400
  else wr (min (max t 0) 32054400 - (min (max t 0) 32054400).tmod u)
def Kf{t u:Int}(v:1<=u/\u<=3600):QD t u=qi t u:=by
 obtain⟨n,k⟩:∃n,n=min (max t 0) 32054400:=⟨_,rfl⟩;have a:0<=n/\n<=32054400:=zb;have o:=Int.emod_nonneg n (show u≠0 by omega);have s:=Int.emod_lt_of_pos n (show 0<u by omega);have w:=Int.mul_ediv_add_emod n u;have l:0<=n / u:=Int.ediv_nonneg a.1 zb;have m:n / u<=n:=Int.ediv_le_self u a.1;have j:n.tmod u=n % u:=Int.tmod_eq_emod_of_nonneg a.1;have p:n.tdiv u=n / u:=Int.tdiv_eq_ediv_of_nonneg a.1
 have r:kC n u=(n / u,n % u):=by
  unfold kC;rw[j,p,if_neg zb,qb (n:=n / u) qg]
 have g:wr (u - n % u)=u - n % u:=qb qg;have i:min u 64108801=u:=zb;have e:min u 100000000=u:=zb;have q:je t 32054400=n:=by unfold je;exact k.symm
 have d:n / u*u=n - n % u:=by rw[Int.mul_comm];omega
 have f:¬ u<1:=zb;unfold QD qi;rw[<-k,q,if_neg f,if_neg f,j,g,i,e];unfold QU;rw[if_neg (show ¬ u<=0 by omega),r];simp only;rw[g];have b:wr (n - n % u)=n - n % u:=qb qg;have c:wr (n - n % u+u)=n - n % u+u:=qb qg;by_cases h:n % u≥u - n % u
 ·rw[if_pos h,if_pos h,b,c];simp only;rw[show wr (n / u+1)=n / u+1 from qb qg,Int.add_mul,d,Int.one_mul,c]
 ·rw[if_neg h,if_neg h,b];simp only;rw[d,b];omega
open Go.RowKit
set_option maxRecDepth 100000
def zba(t:Int):js Tryz.prog 118 [i64 t] (i64 (min (max t 0) 32054400)):=λh=>by
 refine enterQX Tryz.f118 λB=>?_;simp only[go_sem,vn,kB];exact qt
def We(t u:Int):js Tryz.prog 100 [i64 t,i64 u] (i64 (QD t u)):=λh=>by
 refine enterSX Tryz.f100 λB=>?_;refine qx (zba t _) ?_;simp only[go_sem,vn,kB];refine ways (λe=>?_) (λe=>?_)
 ·have b:=of_decide_eq_true e;refine zz ?_;exact zm (by simp only[go_sem,QD,if_pos b]<;>try rfl)
 ·have b:=of_decide_eq_false e;have c:¬ u=0:=zb;simp only[go_sem,c];refine ways (λd=>?_) (λd=>?_)
  ·have a:=of_decide_eq_true d;simp only[go_sem,vn,kB];exact zm (by simp only[go_sem,QD,if_neg b,if_pos a]<;>try rfl)
  ·have a:=of_decide_eq_false d;simp only[go_sem,vn,kB];exact zm (by simp only[go_sem,QD,if_neg b,if_neg a]<;>try rfl)
def j8a{a:Int}(h: -9223372036854775807<=a/\a<=9223372036854775807):wr (0 - a)= -a:=by rw[qb qg];omega
def kua(a:Int):max a (-a)=(a.natAbs:Int):=zb
def k6a:∀(n:Nat) (a b:Int),b.natAbs=n->(-9223372036854775807<=a/\a<=9223372036854775807)->(-9223372036854775807<=b/\b<=9223372036854775807)->js Tryz.prog 88 [i64 a,i64 b] (i64 (Int.gcd a b:Nat)):=by
 intro n
 induction n using Nat.strongRecOn with
 | ind n k=>
 intro a b l m i h;have a0:(a== -9223372036854775808)=false:=beq_false_of_ne zb;have f:(b== -9223372036854775808)=false:=beq_false_of_ne zb;refine enterQX Tryz.f88 λB=>?_;simp only[go_sem,a0,f,vn,j8a m,j8a i,kua];by_cases g:b=0
 ·subst g;have d:(((0:Int).natAbs:Int)==0)=true:=rfl;simp only[go_sem,d];exact zm (by simp only[go_sem,Int.gcd_zero_right,Int.natAbs_zero]<;>try rfl)
 ·have e:((b.natAbs:Int)==0)=false:=beq_false_of_ne zb;have c:¬ (b.natAbs:Int)=0:=zb;have p:((a.natAbs:Int).tmod (b.natAbs:Int))=((a.natAbs % b.natAbs:Nat):Int):=by rw[Int.tmod_eq_emod_of_nonneg zb];rfl
  have j:=Nat.mod_lt a.natAbs (show b.natAbs>0 by omega)
  have o:Int.gcd (b.natAbs:Int) ((a.natAbs % b.natAbs:Nat):Int)=Int.gcd a b:=by
   show Nat.gcd b.natAbs (a.natAbs % b.natAbs)=Nat.gcd a.natAbs b.natAbs;rw[Nat.gcd_comm a.natAbs b.natAbs,Nat.gcd_rec b.natAbs a.natAbs,Nat.gcd_comm]
  simp only[go_sem,e,c,p];refine qx (k _ (by rw[<-l];show((a.natAbs % b.natAbs:Nat):Int).natAbs<_;omega) (b.natAbs:Int) _ rfl zb zb _) ?_;simp only[go_sem,o];exact qt
def wc(p:zL)(f:qp p):js Tryz.prog 45 [rat p] (bl (jw p)):=λh=>by
 have e:=λ(a:p.1≥ -2147483647) (b:p.1<=2147483647) (c:p.2≥1) (d:p.2<=2147483647)=>k6a _ p.1 p.2 rfl zb zb;refine enterSX Tryz.f45 λB=>?_;by_cases a:p.1≥ -2147483647
 ·by_cases b:p.1<=2147483647
  ·by_cases c:p.2≥1
   ·by_cases d:p.2<=2147483647
    ·simp only[go_sem,decide_eq_true a,decide_eq_true b,decide_eq_true c,decide_eq_true d,Bool.and_self,qv];refine zl (e a b c d _) ?_;rintro _ a ⟨rfl,rfl⟩;refine zz ?_;exact zm (by simp only[go_sem,jw,decide_eq_true a,decide_eq_true b,decide_eq_true c,decide_eq_true d,Bool.and_self,Bool.true_and]<;>try rfl)
    ·simp only[go_sem,decide_eq_true a,decide_eq_true b,decide_eq_true c,decide_eq_false d,Bool.and_false,qv];exact zm (by simp only[go_sem,jw,decide_eq_false d,Bool.and_false,Bool.false_and]<;>try rfl)
   ·simp only[go_sem,decide_eq_true a,decide_eq_true b,decide_eq_false c,Bool.and_false,qv];exact zm (by simp only[go_sem,jw,decide_eq_false c,Bool.and_false,Bool.false_and]<;>try rfl)
  ·simp only[go_sem,decide_eq_true a,decide_eq_false b,Bool.and_false,qv];exact zm (by simp only[go_sem,jw,decide_eq_false b,Bool.and_false,Bool.false_and]<;>try rfl)
 ·simp only[go_sem,decide_eq_false a,Bool.and_false,qv];exact zm (by simp only[go_sem,jw,decide_eq_false a,Bool.and_false,Bool.false_and]<;>try rfl)
def Jm(p:zL)(a:qp p):js Tryz.prog 77 [rat p] (bl (xI p)):=λh=>by
 refine enterSX Tryz.f77 λB=>?_;refine qI (wc p a _) ?_
 repeat' (refine ways (λe=>?_) (λe=>?_)<;>(first|replace e:=qZ e|replace e:=qY e)<;>simp only[go_sem,e])
 all_goals refine zm ?_<;>(simp only[go_sem,xI, *]<;>try rfl)
def qua(n lo hi:Int):js Tryz.prog 117 [i64 n,i64 lo,i64 hi] (bl (inN n lo hi)):=λh=>by
 refine enterSX Tryz.f117 λB=>?_
 repeat' (refine ways (λe=>?_) (λe=>?_)<;>(first|replace e:=qZ e|replace e:=qY e)<;>simp only[go_sem,e])
 all_goals refine zm ?_<;>(simp only[go_sem,inN, *]<;>try rfl)
def r7shares(h:List Ob)(x:AV)(l:List zL)(t:∀p∈l,qp p)(w:l.length<9223372036854775808)(s:SlOf h x 2 (l.map qy)):
    ACalls Tryz.prog 79 [x] h λr h'=>r=bl (ka l && decide ((l.length:Int)<=8))/\h'=h:=by
 have f:=s.rows;refine enterSX Tryz.f79 λB=>?_
 refine wp_loop_a ze (λm T h'=>h'=h/\∃k:Nat,k<=l.length/\ka (l.take k)=true/\T 0=x/\T 3=i64 k/\m=l.length - k) l.length
  ⟨rfl,0,zb,rfl,zo,by(simp only[go_sem]<;>rfl),rfl⟩ ?_
 rintro m T h' ⟨rfl,k,z,a,t0,t3,rfl⟩;simp only[go_sem,t3,t0,f,zc];refine ways (λe=>?_) (λe=>?_)
 ·have c:=dlt e;have d:=qO qy c;have o:=s.at (i:=k) (by simpa using c);have n:(k:Int)<l.length:=zb;have b:=zx c;have j:l.take (k+1)=l.take k++[l[k]]:=(zG c).symm;obtain⟨y,u⟩:∃y,y=l[k]:=⟨_,rfl⟩;rw[<-u] at d j b;simp only[go_sem,t3,t0,d,n,o,f,qy,zc,Int.toNat_natCast,zd];refine qI (Jm y (t y b) _) ?_;refine ways (λg=>?_) (λg=>?_)
  ·have g:xI y=false:=(by simpa using g);have v:ka l=false:=List.all_eq_false.2 ⟨y,b,by simp[g]⟩;refine zz ?_;exact zm (by simp only[go_sem,v,Bool.false_and]<;>try rfl)
  ·have g:xI y=true:=(by simpa using g);simp only[go_sem,t3];refine⟨l.length - (k+1),zb,k+1,zb,?_,t0,qh zb rfl,rfl⟩;rw[j];unfold ka at a⊢;rw[List.all_append,a];simp[g]
 ·have q:=jO e;rw[List.take_of_length_le q] at a;simp only[go_sem,t0,f,zc];exact zm (by simp only[go_sem,a,Bool.true_and]<;>try rfl)
def r7elts(h:List Ob)(x:AV)(l:List Elt)(w:∀p∈l,qp p.1/\qp p.2)(G:l.length<9223372036854775808)(z:SlOf h x 4 (l.map wO)):
    ACalls Tryz.prog 78 [x] h λr h'=>r=bl (QZ l && decide ((l.length:Int)<=8))/\h'=h:=by
 have d:=z.rows;refine enterSX Tryz.f78 λB=>?_
 refine wp_loop_a ze (λm T h'=>h'=h/\∃k:Nat,k<=l.length/\QZ (l.take k)=true/\T 0=x/\T 3=i64 k/\m=l.length - k) l.length
  ⟨rfl,0,zb,rfl,zo,by(simp only[go_sem]<;>rfl),rfl⟩ ?_
 rintro m T h' ⟨rfl,k,E,b,t0,t3,rfl⟩;simp only[go_sem,t3,t0,d,zc];refine ways (λe=>?_) (λe=>?_)
 ·have f:=dlt e;have c:=qO wO f;have q:=z.at (i:=k) (by simpa using f);have n:(k:Int)<l.length:=zb;have a:=zx f;have j:l.take (k+1)=l.take k++[l[k]]:=(zG f).symm;obtain⟨y,A⟩:∃y,y=l[k]:=⟨_,rfl⟩;rw[<-A] at c j a;simp only[go_sem,t3,t0,c,n,q,d,wO,zc,Int.toNat_natCast,zd];refine zl (Jm y.1 (w y a).1 _) ?_;rintro _ F ⟨rfl,rfl⟩;simp only[go_sem,t3,t0,c,n,q,d,wO,zc,Int.toNat_natCast,zd];refine qx (Jm y.2 (w y a).2 _) ?_;by_cases o:(xI y.1 && xI y.2)=true;rotate_left
  ·have D:QZ l=false:=List.all_eq_false.2 ⟨y,a,o⟩;obtain⟨v1,s⟩:∃v,v=xI y.1:=⟨_,rfl⟩;obtain⟨C,u⟩:∃v,v=xI y.2:=⟨_,rfl⟩;rw[<-s, <-u] at o⊢;cases v1<;>cases C<;>first|exact absurd rfl o|skip
   all_goals (simp only[go_sem];refine zm ?_<;>(simp only[go_sem,D,Bool.false_and]<;>try rfl))
  ·have g:=o;rw[zi] at g;simp only[go_sem,t3,g.1,g.2];refine⟨l.length - (k+1),zb,k+1,zb,?_,t0,qh zb rfl,rfl⟩;rw[j];unfold QZ at b⊢;rw[List.all_append,b];simp only[List.all_cons,List.all_nil,o,Bool.and_self]
 ·have t:=jO e;rw[List.take_of_length_le t] at b;simp only[go_sem,t0,d,zc];exact zm (by simp only[go_sem,b,Bool.true_and]<;>try rfl)
def vRa(h:List Ob)(s:Setup)(a:SA)(k:SIn h s a)(f:SFit s):ACalls Tryz.prog 76 [qE s a] h λr h'=>r=bl (Qf s)/\h'=h:=by
 have G:=f.nw;refine enterQX Tryz.f76 λB=>?_;simp only[go_sem,k.w.one,k.e.one,k.c.one,k.g.one,k.r.one,k.t.one]
 refine wp_loop_a ze (λm T h'=>∃(n:Nat) (L:List Ob),h'=h++(Ob.box 30 (zN s a)::L)/\T 1= .ptr h.length 0/\T 3=i64 n/\n<=s.ways.length/\((s.ways.take n).all λw=> !K5 s.places w)=true/\m=s.ways.length - n) s.ways.length
  ⟨0,[],rfl,zo,by(simp only[go_sem]<;>rfl),zb,rfl,rfl⟩ ?_
 rintro m T h' ⟨n,L,rfl,t1,t3,F,b,rfl⟩;have p:=k.w.app (Ob.box 30 (zN s a)::L);have l:=p.rows;simp only[go_sem,t3,t1,l,zc];refine ways (λe=>?_) (λe=>?_)
 ·have j:=dlt e;have d:=qO yR j;have v:=p.at (i:=n) (by simpa using j);have u:(n:Int)<s.ways.length:=zb;have o:=zx j;have q:s.ways.take (n+1)=s.ways.take n++[s.ways[n]]:=(zG j).symm;obtain⟨y,C⟩:∃y,y=s.ways[n]:=⟨_,rfl⟩;rw[<-C] at d q o;simp only[go_sem,t3,t1,d,u,v,l,yR,zc,Int.toNat_natCast,zd]
  have D:K5 s.places y=true->Qf s=false:=λx=>by
   unfold Qf;rw[Bool.and_eq_false_iff];exact .inl (List.all_eq_false.2 ⟨y,o,by rw[x];decide⟩)
  have fin:n+1<=s.ways.length:=zb;have z:=qh (k:=n) zb rfl;clear F j u v d C l p k f
  repeat' (refine ways (λe=>?_) (λe=>?_)<;>(first|replace e:=jv e|replace e:=ju e|skip)<;>simp only[go_sem,e,t1])
  all_goals first
   | (have x:K5 s.places y=true:=by simp only[K5,Bool.true_or,Bool.or_true,Bool.false_or, *]
      have E:=D x;exact zm (by simp only[go_sem,E]<;>try rfl))
   | (have x:K5 s.places y=false:=by simp only[K5,Bool.or_false,Bool.false_or, *]
      simp only[go_sem,t3];refine⟨s.ways.length - (n+1),zb,n+1,_,rfl,t1,z,fin,?_,rfl⟩;rw[q,List.all_append,b,List.all_cons,x];rfl)
 ·have A:=jO e;rw[List.take_of_length_le A] at b;simp only[go_sem,t1,l,zc]
  repeat' (refine ways (λe=>?_) (λe=>?_)<;>(first|replace e:=qZ e|replace e:=qY e)<;>simp only[go_sem,e,t1])
  ·refine qI (qua _ _ _ _) ?_;exact zm (by simp only[go_sem,Qf,b,Bool.true_and, *]<;>try rfl)
  ·exact zm (by simp only[go_sem,Qf,b,Bool.true_and,Bool.false_and, *]<;>try rfl)
def Kg{b:Bool}(h:(!b)=true):b=false:=by simpa using h
def Kh{b:Bool}(h:(!b)=false):b=true:=by simpa using h
set_option maxHeartbeats 4000000 in
def kva(h:List Ob)(s:Setup)(a:SA)(k:SIn h s a):ACalls Tryz.prog 80 [qE s a] h λr h'=>r=bl (QC s)/\h'=h:=by
 have b:QC s=((inN s.allow 0 100 && (inN s.unit 1 3600 && inN s.cap 60 57600)) && ((inN s.paidBreak 0 86400 && (inN s.autoAfter 0 86400 && inN s.autoBreak 0 86400)) && ((inN s.nightFrom 0 86400 && (inN s.nightTo 0 86400 && inN s.fault 0 86400)) && (inN s.dayReg 0 s.dayOver && (decide (s.dayOver<=86400) && inN s.weekReg 0 604800))))):=rfl;refine enterQX Tryz.f80 λB=>?_;simp only[go_sem,k.w.one,k.e.one,k.c.one,k.g.one,k.r.one,k.t.one];clear k
 repeat' first
  | (refine zl (qua _ _ _ _) ?_
     rintro _ d ⟨rfl,rfl⟩;simp only[go_sem])
  | (refine ways (λe=>?_) (λe=>?_)<;>(first|replace e:=qZ e|replace e:=qY e|replace e:=jv e|replace e:=ju e|skip)<;>(first|replace e:=Kg e|replace e:=Kh e|skip)<;>simp only[go_sem,e])
 all_goals refine zm ?_<;>(simp only[go_sem,b,Bool.and_true,Bool.true_and,Bool.and_false,Bool.false_and, *]<;>try rfl)
def Wf{l:List yH}{k:Nat}(h:k<l.length)(o:Option Int):xJ o (l.drop k)=((!inN l[k].1 0 1000 || (!inN l[k].2 0 100000 || (match o with|none=>false|some p=>decide (l[k].1<=p)))) || xJ (some l[k].1) (l.drop (k+1))):=by
 rw[zP h];cases o<;>rfl
def Ki(l:List yH):Nat->Option Int
 | 0=>none
 | k+1=>(l[k]?).map (·.1)
set_option maxHeartbeats 4000000 in
def kwa(h:List Ob)(s:Setup)(a:SA)(k:SIn h s a)(f:SFit s):ACalls Tryz.prog 81 [qE s a] h λr h'=>r=bl (wS s)/\h'=h:=by
 have hn:=f.nr;have O:=f.nt;refine enterQX Tryz.f81 λB=>?_;simp only[go_sem,k.w.one,k.e.one,k.c.one,k.g.one,k.r.one,k.t.one]
 refine wp_loop_a ze (λm T h'=>∃(n:Nat),h'=h++[Ob.box 30 (zN s a)]/\T 1= .ptr h.length 0/\T 3=i64 n/\n<=s.rates.length/\((s.rates.take n).all λr=>inN r 0 100000)=true/\m=s.rates.length - n) s.rates.length
  ⟨0,rfl,zo,by(simp only[go_sem]<;>rfl),zb,rfl,rfl⟩ ?_
 rintro m T h' ⟨n,rfl,t1,t3,Z,l,rfl⟩;have d:=(k.r.app [Ob.box 30 (zN s a)]).rows;simp only[go_sem,t3,t1,d,zc];refine ways (λe=>?_) (λe=>?_)
 ·have j:=dlt e;have b:=qO qQ j;have v:=(k.r.app [Ob.box 30 (zN s a)]).at (i:=n) (by simpa using j);have o:(n:Int)<s.rates.length:=zb;have F:=zx j;have K:s.rates.take (n+1)=s.rates.take n++[s.rates[n]]:=(zG j).symm;obtain⟨y,I⟩:∃y,y=s.rates[n]:=⟨_,rfl⟩;rw[<-I] at b K F
  have R:inN y 0 100000=false->wS s=false:=λu=>by
   unfold wS;rw[Bool.and_eq_false_iff];exact .inl (List.all_eq_false.2 ⟨y,F,by rw[u];decide⟩)
  simp only[go_sem,t3,t1,b,o,v,d,qQ,zc,Int.toNat_natCast,zd];refine zl (qua _ _ _ _) ?_;rintro _ X ⟨rfl,rfl⟩;refine zz ?_;refine ways (λu=>?_) (λu=>?_)
  ·have P:=R (Kg u);refine zz ?_;exact zm (by simp only[go_sem,P]<;>try rfl)
  ·simp only[go_sem,t3];refine⟨s.rates.length - (n+1),zb,n+1,t1,qh zb rfl,zb,?_,rfl⟩;rw[K,List.all_append,l,List.all_cons,Kh u];rfl
 ·have E:=jO e;rw[List.take_of_length_le E] at l;simp only[go_sem,t1];clear t3 Z e E
  refine wp_loop_a ze (λm T h'=>∃(n:Nat) (L:List Ob),h'=h++(Ob.box 30 (zN s a)::L)/\T 1= .ptr h.length 0/\T 4=i64 n/\n<=s.tiers.length/\xJ none s.tiers=xJ (Ki s.tiers n) (s.tiers.drop n)/\m=s.tiers.length - n) s.tiers.length
   ⟨0,[],rfl,by simp only[go_sem,t1],by(simp only[go_sem]<;>rfl),zb,rfl,rfl⟩ ?_
  rintro m T h' ⟨n,L,rfl,t1,t4,Z,x,rfl⟩;have A:=k.t.app (Ob.box 30 (zN s a)::L);have d:=A.rows;simp only[go_sem,t4,t1,d,zc];refine ways (λe=>?_) (λe=>?_)
  ·have j:=dlt e;rw[Wf j] at x;have b:=qO qy j;have v:=A.at (i:=n) (by simpa using j);have o:(n:Int)<s.tiers.length:=zb;obtain⟨y,I⟩:∃y,y=s.tiers[n]:=⟨_,rfl⟩;rw[<-I] at b x
   have R:xJ none s.tiers=true->wS s=false:=λq=>by
    unfold wS;rw[q,l];rfl
   have C:Ki s.tiers (n+1)=some y.1:=by
    rw[Ki,zg j, <-I];rfl
   have fin:n+1<=s.tiers.length:=zb;have Q:=qh (k:=n) zb rfl
   have G:(n=0/\Ki s.tiers n=none)∨∃(p:Nat) (z:yH),n=p+1/\(s.tiers.map qy)[p]? =some (qy z)/\Ki s.tiers n=some z.1:=by
    cases n with
    | zero=>exact .inl ⟨rfl,rfl⟩
    | succ p=>exact .inr ⟨p,s.tiers[p],rfl,qO qy zb,by rw[Ki,zg zb];rfl⟩
   have U:∀M,zI (h++(Ob.box 30 (zN s a)::M)) a.t=some (s.tiers.map qy):=λM=>(k.t.app _).rows;have Y:∀M,eOf (h++(Ob.box 30 (zN s a)::M)) a.t=some 2:=λM=>(k.t.app _).at (i:=n) (by simpa using j);rcases G with⟨S,N⟩|⟨p,z,S,H,N⟩
   ·rw[N] at x;have D:decide ((n:Int)>0)=false:=(by rw[decide_eq_false_iff_not];omega);simp only[go_sem,t4,t1,b,o,v,d,qy,zc,Int.toNat_natCast,zd];refine zZ [] 0 (oF [0,1,2,3,4,5,6,7,8,9,10,11,12,13,14,16,18,19,15,17,20,21,22,23,24,25] ([])) ?_;simp only[go_sem,t4,t1,D];clear I b v o A N e hn O k f d
    repeat' first
     | (refine zl (qua _ _ _ _) ?_
        rintro _ X ⟨rfl,rfl⟩;simp only[go_sem,t1])
     | (refine ways (λe=>?_) (λe=>?_)<;>(first|replace e:=jv e|replace e:=ju e|skip)<;>(first|replace e:=Kg e|replace e:=Kh e|skip)<;>simp only[go_sem,e,Bool.not_true,Bool.not_false,t1,t4,D])
    all_goals first
     | (have u:xJ none s.tiers=true:=by simp only[x,Bool.not_true,Bool.not_false,Bool.true_or,Bool.or_true,Bool.false_or, *]
        have P:=R u;exact zm (by simp only[go_sem,P]<;>try rfl))
     | (have u:xJ none s.tiers=xJ (some y.1) (s.tiers.drop (n+1)):=by simp only[x,Bool.not_true,Bool.or_false,Bool.false_or, *]
        refine⟨s.tiers.length - (n+1),zb,n+1,_,rfl,Q,fin,?_,rfl⟩;rw[C];exact u)
   ·rw[N] at x;have D:decide ((n:Int)>0)=true:=(by rw[decide_eq_true_eq];omega);have W:wr ((n:Int) - 1)=(p:Int):=(by rw[qb qg];omega);have V:(p:Int)<s.tiers.length:=zb;simp only[go_sem,t4,t1,b,o,v,d,qy,zc,Int.toNat_natCast,zd];refine zZ [] 0 (oF [0,1,2,3,4,5,6,7,8,9,10,11,12,13,14,16,18,19,15,17,20,21,22,23,24,25] ([])) ?_;simp only[go_sem,t4,t1,D];clear I b v o A N e hn O k f d
    repeat' first
     | (refine zl (qua _ _ _ _) ?_
        rintro _ X ⟨rfl,rfl⟩;simp only[go_sem,t1])
     | (refine ways (λe=>?_) (λe=>?_)<;>(first|replace e:=jv e|replace e:=ju e|skip)<;>(first|replace e:=Kg e|replace e:=Kh e|skip)<;>simp only[go_sem,e,Bool.not_true,Bool.not_false,t1,t4,D,W,V,U,Y,H,qy,zc,Int.toNat_natCast,zd])
    all_goals first
     | (have u:xJ none s.tiers=true:=by simp only[x,Bool.not_true,Bool.not_false,Bool.true_or,Bool.or_true,Bool.false_or, *]
        have P:=R u;exact zm (by simp only[go_sem,P]<;>try rfl))
     | (have u:xJ none s.tiers=xJ (some y.1) (s.tiers.drop (n+1)):=by simp only[x,Bool.not_true,Bool.or_false,Bool.false_or, *]
        refine⟨s.tiers.length - (n+1),zb,n+1,_,rfl,Q,fin,?_,rfl⟩;rw[C];exact u)
  ·have E:=jO e;rw[List.drop_of_length_le E] at x;have x:xJ none s.tiers=false:=x;have J:=(k.r.app (Ob.box 30 (zN s a)::L)).rows;simp only[go_sem,t1,d,J,zc];clear A k
   repeat' first
    | (refine zl (qua _ _ _ _) ?_
       rintro _ X ⟨rfl,rfl⟩;simp only[go_sem,t1,d,zc])
    | (refine ways (λe=>?_) (λe=>?_)<;>(first|replace e:=qZ e|replace e:=qY e|skip)<;>simp only[go_sem,e,t1,d,zc])
   all_goals refine zm ?_<;>(simp only[go_sem,wS,l,x,Bool.not_false,Bool.and_true,Bool.true_and,Bool.and_false,Bool.false_and, *]<;>try rfl)
def Zn(h:List Ob)(s:Setup)(a:SA)(k:SIn h s a)(f:SFit s):ACalls Tryz.prog 37 [qE s a] h λr h'=>r=bl (zX s)/\h'=h:=by
 rw[kta];refine enterQX Tryz.f37 λB=>?_;simp only[go_sem,k.w.one,k.e.one,k.c.one,k.g.one,k.r.one,k.t.one];refine zl (vRa _ s a (k.app _) f) ?_;rintro _ b ⟨rfl,rfl⟩;refine zz ?_;refine zl (Jm s.pace f.pace _) ?_;rintro _ b ⟨rfl,rfl⟩;refine zz ?_;refine zl (r7elts _ a.e s.elements f.elements f.ne (k.app _).e) ?_;rintro _ b ⟨rfl,rfl⟩;refine zz ?_;refine zl (r7shares _ a.c s.classes f.classes f.nc (k.app _).c) ?_;rintro _ b ⟨rfl,rfl⟩;refine zz ?_;refine zl (r7shares _ a.g s.gears f.gears f.ng (k.app _).g) ?_;rintro _ b ⟨rfl,rfl⟩;refine zz ?_;refine zl (kva _ s a (k.app _)) ?_;rintro _ b ⟨rfl,rfl⟩;refine zz ?_;refine qI (kwa _ s a (k.app _) f) ?_
 repeat' (refine ways (λe=>?_) (λe=>?_)<;>(first|replace e:=qZ e|replace e:=qY e|skip)<;>simp only[go_sem,e])
 all_goals refine zm ?_<;>(simp only[go_sem,vOa,Qg,Bool.and_true,Bool.true_and,Bool.and_false,Bool.false_and, *]<;>try rfl)
def vSa(a b:Ev):js Tryz.prog 132 [evV a,evV b] (bl (ltE a b)):=λh=>by
 have c:ltE a b=(decide (a.at_<b.at_) || (a.at_==b.at_ && decide (a.id<b.id))):=by
  rw[Bool.eq_iff_iff,xw];simp only[Bool.or_eq_true,zi,decide_eq_true_eq,beq_iff_eq]
 rw[c];refine enterSX Tryz.f132 λB=>?_
 repeat' (refine ways (λe=>?_) (λe=>?_)<;>(first|replace e:=jv e|replace e:=ju e|replace e:=qZ e|replace e:=qY e|skip)<;>simp only[go_sem,e])
 all_goals refine zm ?_<;>(simp only[go_sem,Bool.or_true,Bool.true_or,Bool.or_false,Bool.false_or,Bool.and_true,Bool.true_and,Bool.and_false,Bool.false_and, *]<;>try rfl)
set_option maxHeartbeats 4000000 in
def vTa(e:Ev):js Tryz.prog 121 [evV e] (bl (X9 e)):=λh=>by
 have a:X9 e=(!(decide (e.id<0) || (decide (e.id>100000) || (decide (e.worker<0) || (decide (e.at_<0) || (decide (e.at_>31449599) || (decide (e.kind<1) || decide (e.kind>7))))))) && (!decide (min (min (min (min (min (min e.from_ e.to_) e.element) e.units) e.class_) e.gear) e.code<0) && ((e.kind==3 || max (max (max (max (max e.from_ e.to_) e.element) e.units) e.class_) e.gear==0) && (e.kind==4 || e.code==0)))):=rfl;refine enterSX Tryz.f121 λB=>?_
 repeat' (refine ways (λe=>?_) (λe=>?_)<;>(first|replace e:=jv e|replace e:=ju e|replace e:=qZ e|replace e:=qY e|skip)<;>simp only[go_sem,e,kB,vn])
 all_goals refine zm ?_<;>(simp only[go_sem,a,Bool.not_true,Bool.not_false,Bool.or_true,Bool.true_or,Bool.or_false,Bool.false_or,Bool.and_true,Bool.true_and,Bool.and_false,Bool.false_and, *]<;>try rfl)
set_option maxHeartbeats 4000000 in
def Jn(h:List Ob)(s:Setup)(a:SA)(k:SIn h s a)(e:Ev):ACalls Tryz.prog 87 [qE s a,evV e] h λr h'=>r=bl (km s e)/\h'=h:=by
 rw[<-Y7];have l:∀M,zI (h++M) a.e=_:=λM=>(k.app M).e.rows;have m:∀M,zI (h++M) a.c=_:=λM=>(k.app M).c.rows;have i:∀M,zI (h++M) a.g=_:=λM=>(k.app M).g.rows;have j:∀M,zI (h++M) a.r=_:=λM=>(k.app M).r.rows
 have f:decide (e.worker≥(s.rates.length:Int))= !decide (e.worker<(s.rates.length:Int)):=by
  by_cases q:e.worker<(s.rates.length:Int)
  ·rw[decide_eq_true q,decide_eq_false zb];rfl
  ·rw[decide_eq_false q,decide_eq_true zb];rfl
 refine enterQX Tryz.f87 λB=>?_;simp only[go_sem,k.w.one,k.e.one,k.c.one,k.g.one,k.r.one,k.t.one];refine qx (vTa e _) ?_;clear k;by_cases d:e.kind=3
 ·have b:(e.kind==3)=true:=by rw[d];rfl
  simp only[go_sem,f]
  repeat' (refine ways (λe=>?_) (λe=>?_)<;>(first|replace e:=jv e|replace e:=ju e|replace e:=qZ e|replace e:=qY e|skip)<;>(first|replace e:=Kg e|replace e:=Kh e|skip)<;>simp only[go_sem,e,b,l,m,i,j,f,Bool.not_true,Bool.not_false,zc])
  all_goals refine zm ?_<;>(simp only[go_sem,jVa,if_pos d,Bool.not_true,Bool.not_false,Bool.or_true,Bool.true_or,Bool.or_false,Bool.false_or,Bool.and_true,Bool.true_and,Bool.and_false,Bool.false_and, *]<;>try rfl)
 ·have b:(e.kind==3)=false:=beq_false_of_ne d;simp only[go_sem,f]
  repeat' (refine ways (λe=>?_) (λe=>?_)<;>(first|replace e:=jv e|replace e:=ju e|replace e:=qZ e|replace e:=qY e|skip)<;>(first|replace e:=Kg e|replace e:=Kh e|skip)<;>simp only[go_sem,e,b,l,m,i,j,f,Bool.not_true,Bool.not_false,zc])
  all_goals refine zm ?_<;>(simp only[go_sem,jVa,if_neg d,Bool.not_true,Bool.not_false,Bool.or_true,Bool.true_or,Bool.or_false,Bool.false_or,Bool.and_true,Bool.true_and,Bool.and_false,Bool.false_and, *]<;>try rfl)
