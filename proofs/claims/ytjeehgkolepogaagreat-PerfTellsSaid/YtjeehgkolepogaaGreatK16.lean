import Derived.Test.YtjeehgkolepogaaGreatK15
set_option linter.all false
namespace Go.Proofs.YtjeehgkolepogaaGreat.Ax
open Go Go.Proofs
set_option maxRecDepth 100000
section
variable{i j:Nat}{P A R D l a:List Ev}{x z:Ev}
attribute [go_sem] qPa
def KV(h:i+j<4611686018427387904):IntKind.wrap .i64 ((IntKind.wrap .u64 (IntKind.wrap .i64 ((i:Int)+(j:Int)))).fdiv (2 ^ min 1 64))=(((i+j) / 2:Nat):Int):=by
 rw[show IntKind.wrap .i64 ((i:Int)+(j:Int))=((i+j:Nat):Int) from wP h,show IntKind.wrap .u64 ((i+j:Nat):Int)=((i+j:Nat):Int) by rw[IntKind.wrap_u64];omega,
  Int.fdiv_eq_ediv_of_nonneg _ ze,show((2:Int) ^ min 1 64)=2 by decide,Go.IntWalk.i64_in _ zb]
 omega
def jT{a b:Nat}(h:a=b):i64 (a:Int)=i64 (b:Int):=by rw[h]
def YZ(b:P.length<=i)(a:i - P.length<A.length):(P++(A++R))[i]? =some A[i - P.length]! :=by
 rw[zM b,zH a,zg a,getElem!_pos A _ a]
def kla(a:P.length+A.length<=i)(b:i - (P.length+A.length)<D.length):(P++(A++(D++R)))[i]? =some D[i - (P.length+A.length)]! :=by
 rw[<-zq];have:=YZ (P:=P++A) (A:=D) (R:=R) (i:=i) zE zE;rw[this,zp]
def qv{b:Bool}:(b==true)=b:=by cases b<;>rfl
def jr{a b:Nat}(h:a<b):(a:Int)<(b:Int):=zb
def Jk(h:Srt l){p q:Nat}(f:p<=q)(b:q<l.length):ltE l[q]! l[p]! =false:=by
 induction l generalizing p q with
 | nil=>simp at b
 | cons x l d=>
   obtain⟨c,e⟩:=h;cases q with
   | zero=>
     have:p=0:=zb;subst this;rw[xh];simp
   | succ q=>
     have a:q<l.length:=(by simpa using b);cases p with
     | zero=>
       simp only[List.getElem!_cons_succ,List.getElem!_cons_zero];exact c _ (by rw[getElem!_pos l q a];exact zx a)
     | succ p=>
       simp only[List.getElem!_cons_succ];exact d e zb a
def Z9(h:x∈l.take i):∃p,p<i/\p<l.length/\l[p]! =x:=by
 obtain⟨p,a,b⟩:=List.mem_iff_getElem.1 h;rw[zT] at a;refine⟨p,zb,zb,?_⟩;rw[getElem!_pos l p zb, <-b,List.getElem_take]
def Qa(h:x∈l.drop i):∃p,i<=p/\p<l.length/\l[p]! =x:=by
 obtain⟨p,a,b⟩:=List.mem_iff_getElem.1 h;rw[List.length_drop] at a;refine⟨i+p,zb,zb,?_⟩;rw[getElem!_pos l (i+p) zb, <-b,List.getElem_drop]
def qaa(e:Srt A)(m:Srt D)(hi:i<=A.length)(r:j<=D.length)(o:i=0∨j=D.length∨ltE D[j]! A[i - 1]! =false)(n:i=A.length∨j=0∨ltE D[j - 1]! A[i]! =true):mergeE A D=mergeE (A.take i) (D.take j)++mergeE (A.drop i) (D.drop j):=by
 conv=>lhs;rw[<-qc i A, <-qc j D]
 refine yT (λx b y a=>?_) (λx b y a=>?_)
 ·obtain⟨p,d,k,rfl⟩:=Z9 b;obtain⟨q,f,l,rfl⟩:=Qa a;rcases o with c|c|c
  ·omega
  ·omega
  ·have h:=Jk e (p:=p) (q:=i - 1) zb zb;have g:=Jk m f l;rw[xh] at *; omega
 ·obtain⟨p,d,k,rfl⟩:=Qa b;obtain⟨q,f,l,rfl⟩:=Z9 a;rcases n with c|c|c
  ·omega
  ·omega
  ·have h:=Jk e d k;have g:=Jk m (p:=q) (q:=j - 1) zb zb;rw[xh] at h g;rw[xw] at *; omega
def vCa(h:Srt (a++[x]))(b:ltE x z=true):∀y∈a++[x],ltE y z=true:=z8a h b
def vDa(h:Srt (x::a))(b:ltE x z=false):∀y∈x::a,ltE y z=false:=VR h b
set_option maxHeartbeats 4000000 in
def c117:∀(n:Nat) (h:List Ob) (id st a m b:Nat) (P A D Q:List Ev) (hi:h[id]? =some (qJ (P++(A++(D++Q))) st)) (ha:a=P.length) (hm:m=P.length+A.length) (hb:b=P.length+A.length+D.length) (hA:0<A.length) (hD:0<D.length) (sA:Srt A) (sD:Srt D) (hl:P.length+A.length+D.length+Q.length<1099511627776) (hn:A.length+D.length<=n),
    ACalls Tryz.prog 150 [.tl id st,i64 a,i64 m,i64 b,.fn (.func 95) [] []] h λr h'=>r= .tup []/\h'=h.set id (qJ (P++(mergeE A D++Q)) st)
 | 0,_,_,_,_,_,_,_,_,_,_,_,_,_,_,_,_,_,_,_,hn=>zb
 | n+1,h,id,st,a,m,b,P,A,D,Q,hi,ha,hm,hb,hA,hD,sA,sD,hl,hn=>by
   have hg:∀o,(h.set id o)[id]? =some o:=λo=>zt hi;have w1:wr ((m:Int) - (a:Int))=(A.length:Int):=(by rw[vO zb zb];omega);refine enterQX Tryz.f150 (λB=>?_) (⟨_,_,⟨rfl,rfl⟩,qX hi rfl⟩);simp only[go_sem,w1];refine ways (λe=>?_) (λe=>?_)
   ·obtain⟨x,rfl⟩:∃x,A=[x]:=by
     have:A.length=1:=by
      have:(A.length:Int)=1:=(by simpa using e);omega
     exact List.length_eq_one_iff.1 this
    refine zz ?_
    refine wp_loop_a ze (λn T h'=>∃f p G,D=f++(p++G)/\(∀y∈f,ltE y x=true)/\(∀y∈G,ltE y x=false)/\h'=h/\T 0= .tl id st/\T 1=i64 a/\T 4= .fn (.func 95) [] []/\T 10=i64 (m+f.length:Nat)/\T 11=i64 (m+f.length+p.length:Nat)/\n=p.length) D.length
     ⟨[],D,[],zh,zh,zh,rfl,zo,zo,zo,zo,by(simp only[go_sem,hb,hm,List.length_nil]),rfl⟩ ?_
    rintro n T h' ⟨f,p,G,rfl,h1,Y,rfl,t0,t1,t4,S,θ,rfl⟩;simp only[go_sem,S,θ];refine ways (λe=>?_) (λe=>?_)
    ·have K:=dlt e;simp only[go_sem,S,θ];have F:=KV (i:=m+f.length) (j:=m+f.length+p.length) (by simp at hl hm;omega)
     obtain⟨u,y,H,rfl,hE⟩:∃u y H,p=u++y::H/\u.length=p.length / 2:=by
      have O:p.length / 2<p.length:=zb;refine⟨p.take (p.length / 2),p[p.length / 2],p.drop (p.length / 2+1),?_,zE⟩;rw[<-zP O,qc]
     have w:P++([x]++((f++(u++y::H++G))++Q))=(P++([x]++(f++u)))++y::(H++(G++Q)):=zh;obtain⟨l,E⟩:∃l,l=P++([x]++((f++(u++y::H++G))++Q)):=⟨_,rfl⟩;rw[<-E] at hi w;simp only[zp,List.length_cons,List.length_nil] at hb hl hm hE K F hn S θ;have α:l.length=P.length+1+f.length+u.length+1+H.length+G.length+Q.length:=(by rw[w];simp;omega);have hx:(m+f.length+(m+f.length+(u.length+(H.length+1)))) / 2=m+f.length+u.length:=zb;rw[hx] at F;have ra:(l.map evC)[m+f.length+u.length]? =some (evC y):=jz (by rw[w];exact yf zE);have rb:(l.map evC)[a]? =some (evC x):=jz (by rw[E,ha];simp);have la:=jr (a:=m+f.length+u.length) (b:=l.length) zb;have lb:=jr (a:=a) (b:=l.length) zb;simp only[go_sem,F];refine zZ [] 0 (oF [0,1,2,5,6,3,4,7,8,9,10] ([])) ?_;simp only[go_sem,t0,t1,t4,hi,ra,rb,la,lb,zc,Int.toNat_natCast,zd];refine zl (c89 y x _) ?_;rintro _ U ⟨rfl,e3⟩;subst e3;refine zz ?_;have sM:Srt (u++y::H):=(jN.1 (jN.1 sD).2.1).1;refine ways (λN=>?_) (λN=>?_)
     ·have N:ltE y x=true:=N;simp only[go_sem,θ];have q1:=qh (k:=m+f.length+u.length) (m:=m+(f++(u++[y])).length) zb zE;refine⟨H.length,zb,f++(u++[y]),H,G,zh,λz M=>?_,Y,t0,t1,t4,q1,?_,rfl⟩
      ·rcases zV.1 M with M|M
       ·exact h1 z M
       ·exact vCa (x:=y) (a:=u) ((jN (a:=u++[y]) (b:=H)).1 (by simpa using sM)).1 N z M
      ·exact jT zE
     ·have N:ltE y x=false:=N;simp only[go_sem,S];refine⟨u.length,zb,f,u,y::H++G,zh,h1,λz M=>?_,t0,t1,t4,rfl,rfl,rfl⟩
      ·rcases zV.1 M with M|M
       ·exact vDa (x:=y) (a:=H) (jN.1 sM).2.1 N z M
       ·exact Y z M
    ·have L:=jO e;have:p=[]:=zy zb;subst this;rw[List.nil_append,VP h1 Y];simp only[zp,List.length_cons,List.length_nil] at hb hl hm hn;rw[List.nil_append] at hi;simp only[go_sem,t1]
     refine wp_loop_a ze (λn T U=>∃g J,f=g++J/\U=h'.set id (qJ (P++(g++(x::(J++(G++Q))))) st)/\T 0= .tl id st/\T 1=i64 a/\T 4= .fn (.func 95) [] []/\T 10=i64 (m+f.length:Nat)/\T 13=i64 (a+g.length:Nat)/\n=J.length) f.length
      ⟨[],f,rfl,(jA (by rw[hi];simp)).symm,by simp only[go_sem,t0],by simp only[go_sem,t1],by simp only[go_sem,t4],by simp only[go_sem,S],by simp only[go_sem,List.length_nil],rfl⟩ ?_
     rintro n T U ⟨g,J,rfl,rfl,t0,t1,t4,S,t13,rfl⟩;simp only[zp,List.length_cons,List.length_nil] at hb hl S;have w2:wr (((m+(g.length+J.length):Nat):Int) - 1)=((a+(g.length+J.length):Nat):Int):=(by rw[Jj zb zb];omega);simp only[go_sem,S,t13,w2,zp];refine ways (λe=>?_) (λe=>?_)
     ·have K:=dlt e;cases J with
      | nil=>simp at K
      | cons y J=>
      simp only[zp,List.length_cons,List.length_nil] at hb hl;obtain⟨l,E⟩:∃l,l=P++(g++(x::(y::J++(G++Q)))):=⟨_,rfl⟩;have w:l=(P++g)++x::([]++y::(J++(G++Q))):=(by rw[E];simp);have α:l.length=P.length+g.length+2+J.length+G.length+Q.length:=(by rw[w];simp;omega);have i1:a+g.length=(P++g).length:=zE;have i2:a+g.length+1=(P++g).length+1+([]:List Ev).length:=zE;have ra:(l.map evC)[a+g.length]? =some (evC x):=jz (by rw[w];exact yf i1)
      have rb:(l.map evC)[a+g.length+1]? =some (evC y):=jz (by
       rw[w,show(P++g)++x::([]++y::(J++(G++Q)))=((P++g)++[x])++y::(J++(G++Q)) by simp];exact yf (by rw[i2];simp;omega))
      have la:=jr (a:=a+g.length) (b:=l.length) zb;have lb:=jr (a:=a+g.length+1) (b:=l.length) zb;have wb:wr (((a+g.length:Nat):Int)+1)=((a+g.length+1:Nat):Int):=jM zb;obtain⟨q,q1,q2⟩:=Ji (l:=l) (i:=a+g.length) (j:=a+g.length+1) y zb;have sw:=Qr w i1 i2;rw[<-E];refine zz ?_;refine zZ [] 0 (oF [0,1,2,3,4,5,6,7,10,11,8,9,12,13,14,15,16,17] ([])) ?_;simp only[go_sem,t13,t0,hg,ra,rb,q1,q2,la,lb,wb,zc,Int.toNat_natCast,zd,qB];refine⟨J.length,zh,g++[y],J,zh,?_,t1,t4,S,?_,rfl⟩
      ·rw[sw];exact congrArg (λl=>h'.set id (qJ l st)) zh
      ·exact jT zE
     ·have L:=jO e;have:J=[]:=zy (by simp at L;omega);subst this;refine zz ?_;exact⟨.tup [],zo,.inl ⟨rfl,zh⟩⟩
   ·have w2:wr ((b:Int) - (m:Int))=(D.length:Int):=(by rw[vO zb zb];omega);simp only[go_sem,w2]
    have hA2:2<=A.length:=by
     have:¬ (A.length:Int)=1:=(by simpa using e);omega
    refine ways (λe=>?_) (λe=>?_)
    ·obtain⟨x,rfl⟩:∃x,D=[x]:=by
      have:D.length=1:=by
       have:(D.length:Int)=1:=(by simpa using e);omega
      exact List.length_eq_one_iff.1 this
     refine zz ?_;simp only[zp,List.length_cons,List.length_nil] at hb hl hm hn
     refine wp_loop_a ze (λn T h'=>∃f p G,A=f++(p++G)/\(∀y∈f,ltE x y=false)/\(∀y∈G,ltE x y=true)/\h'=h/\T 0= .tl id st/\T 2=i64 m/\T 4= .fn (.func 95) [] []/\T 14=i64 (a+f.length:Nat)/\T 15=i64 (a+f.length+p.length:Nat)/\n=p.length) A.length
      ⟨[],A,[],zh,zh,zh,rfl,zo,zo,zo,zo,by(simp only[go_sem,hb,hm,ha,List.length_nil]),rfl⟩ ?_
     rintro n T h' ⟨f,p,G,rfl,h1,Y,rfl,t0,t2,t4,R,ρ,rfl⟩;simp only[go_sem,R,ρ];simp only[zp,List.length_cons,List.length_nil] at hb hl hm hn;refine ways (λe=>?_) (λe=>?_)
     ·have K:=dlt e;have F:=KV (i:=a+f.length) (j:=a+f.length+p.length) zb
      obtain⟨u,y,H,rfl,hE⟩:∃u y H,p=u++y::H/\u.length=p.length / 2:=by
       have O:p.length / 2<p.length:=zb;refine⟨p.take (p.length / 2),p[p.length / 2],p.drop (p.length / 2+1),?_,zE⟩;rw[<-zP O,qc]
      have w:P++((f++(u++y::H++G))++([x]++Q))=(P++(f++u))++y::(H++(G++([x]++Q))):=zh;obtain⟨l,E⟩:∃l,l=P++((f++(u++y::H++G))++([x]++Q)):=⟨_,rfl⟩;rw[<-E] at hi w;simp only[zp,List.length_cons,List.length_nil] at hb hl hm hE K F hn R ρ;have α:l.length=P.length+f.length+u.length+1+H.length+G.length+1+Q.length:=(by rw[w];simp;omega);have hx:(a+f.length+(a+f.length+(u.length+(H.length+1)))) / 2=a+f.length+u.length:=zb;rw[hx] at F;have ra:(l.map evC)[a+f.length+u.length]? =some (evC y):=jz (by rw[w];exact yf zE)
      have rb:(l.map evC)[m]? =some (evC x):=jz (by
       rw[E,show P++((f++(u++y::H++G))++([x]++Q))=(P++(f++(u++y::H++G)))++x::Q by simp];exact yf (by rw[hm];simp;omega))
      have la:=jr (a:=a+f.length+u.length) (b:=l.length) zb;have lb:=jr (a:=m) (b:=l.length) zb;simp only[go_sem,R,ρ,F];refine zZ [] 0 (oF [0,1,2,5,6,3,4,7,8,9,10,11] ([])) ?_;simp only[go_sem,t0,t2,t4,hi,ra,rb,la,lb,zc,Int.toNat_natCast,zd];refine zl (c89 x y _) ?_;rintro _ U ⟨rfl,e3⟩;subst e3;refine zz ?_;have sM:Srt (u++y::H):=(jN.1 (jN.1 sA).2.1).1;refine ways (λN=>?_) (λN=>?_)
      ·have N:ltE x y=false:=by
        have:(!ltE x y)=true:=N;simpa using this
       simp only[go_sem,ρ];have q1:=qh (k:=a+f.length+u.length) (m:=a+(f++(u++[y])).length) zb zE;refine⟨H.length,zb,f++(u++[y]),H,G,zh,λz M=>?_,Y,t0,t2,t4,q1,?_,rfl⟩
       ·rcases zV.1 M with M|M
        ·exact h1 z M
        ·exact VQ (x:=y) (a:=u) ((jN (a:=u++[y]) (b:=H)).1 (by simpa using sM)).1 N z M
       ·exact jT zE
      ·have N:ltE x y=true:=by
        have:(!ltE x y)=false:=N;simpa using this
       simp only[go_sem,R];refine⟨u.length,zb,f,u,y::H++G,zh,h1,λz M=>?_,t0,t2,t4,rfl,rfl,rfl⟩
       ·rcases zV.1 M with M|M
        ·exact z9a (x:=y) (a:=H) (jN.1 sM).2.1 N z M
        ·exact Y z M
     ·have L:=jO e;have:p=[]:=zy zb;subst this;rw[List.nil_append,JV h1 Y];simp only[zp,List.length_cons,List.length_nil] at hb hl hm hn;rw[List.nil_append] at hi;simp only[go_sem,t2]
      refine wp_loop_a ze (λn T U=>∃g J,G=g++J/\U=h'.set id (qJ (P++(f++(g++(x::(J++Q))))) st)/\T 0= .tl id st/\T 2=i64 m/\T 4= .fn (.func 95) [] []/\T 14=i64 (a+f.length:Nat)/\T 17=i64 (a+f.length+g.length:Nat)/\n=g.length) G.length
       ⟨G,[],zh,(jA (by rw[hi];simp)).symm,by simp only[go_sem,t0],by simp only[go_sem,t2],by simp only[go_sem,t4],by simp only[go_sem,R],jT zb,rfl⟩ ?_
      rintro n T U ⟨g,J,rfl,rfl,t0,t2,t4,R,χ,rfl⟩;simp only[zp,List.length_cons,List.length_nil] at hb hl R;simp only[go_sem,R,χ];refine ways (λe=>?_) (λe=>?_)
      ·have K:=dlt e;rcases List.eq_nil_or_concat g with rfl|⟨g,y,rfl⟩
       ·simp at K
       rw[List.concat_eq_append] at*
       simp only[zp,List.length_cons,List.length_nil,Nat.zero_add] at hb hl χ;obtain⟨l,E⟩:∃l,l=P++(f++(g++[y]++(x::(J++Q)))):=⟨_,rfl⟩;have w:l=(P++(f++g))++y::([]++x::(J++Q)):=(by rw[E];simp);have α:l.length=P.length+f.length+g.length+2+J.length+Q.length:=(by rw[w];simp;omega);have i1:a+f.length+g.length=(P++(f++g)).length:=zE;have i2:a+f.length+(g.length+1)=(P++(f++g)).length+1+([]:List Ev).length:=zE;have ra:(l.map evC)[a+f.length+g.length]? =some (evC y):=jz (by rw[w];exact yf i1)
       have rb:(l.map evC)[a+f.length+(g.length+1)]? =some (evC x):=jz (by
        rw[w,show(P++(f++g))++y::([]++x::(J++Q))=((P++(f++g))++[y])++x::(J++Q) by simp];exact yf (by rw[i2];simp;omega))
       have la:=jr (a:=a+f.length+g.length) (b:=l.length) zb;have lb:=jr (a:=a+f.length+(g.length+1)) (b:=l.length) zb
       have wb:wr (((a+f.length+(g.length+1):Nat):Int) - 1)=((a+f.length+g.length:Nat):Int):=by
        rw[Jj zb zb];omega
       obtain⟨q,q1,q2⟩:=Ji (l:=l) (i:=a+f.length+(g.length+1)) (j:=a+f.length+g.length) y zb;have sw:=JX w i1 i2;rw[<-E];refine zz ?_;refine zZ [] 0 (oF [0,1,2,3,4,5,6,7,10,11,8,9,12,13,14,15,16,17] ([])) ?_;simp only[go_sem,χ,t0,hg,ra,rb,q1,q2,la,lb,wb,zc,Int.toNat_natCast,zd,qB];refine⟨g.length,zh,g,y::J,zh,?_,t2,t4,?_,rfl,rfl⟩
       ·rw[sw];exact congrArg (λl=>h'.set id (qJ l st)) zh
       ·exact R.trans (jT zh)
      ·have L:=jO e;have:g=[]:=zy zb;subst this;refine zz ?_;exact⟨.tup [],zo,.inl ⟨rfl,zh⟩⟩
    ·simp only[JC,KF]
     have hD2:2<=D.length:=by
      have:¬ (D.length:Int)=1:=(by simpa using e);omega
     obtain⟨c,hc⟩:∃c,c=(a+b) / 2:=⟨_,rfl⟩;have F:=KV (i:=a) (j:=b) zb;rw[<-hc] at F;have w3:wr ((c:Int)+(m:Int))=((c+m:Nat):Int):=wP zb;rw[jS,jS,jS];refine yr (λT h'=>∃lo up:Nat,h'=h/\T 0= .tl id st/\T 1=i64 a/\T 2=i64 m/\T 3=i64 b/\T 4= .fn (.func 95) [] []/\T 18=i64 c/\T 19=i64 (c+m:Nat)/\T 20=i64 lo/\T 21=i64 up/\a<=lo/\lo<=up/\up<=m/\c+m<=b+lo/\up<=c/\(lo=a∨c+m=b+lo)/\(up=m∨up=c)) ?_ ?_
     ·simp only[go_sem,F,w3];refine ways (λe=>?_) (λe=>?_)
      ·have K:c<m:=dlt e;have w4:wr (((c+m:Nat):Int) - (b:Int))=((c+m - b:Nat):Int):=vO zb zb;simp only[go_sem,w4];exact⟨c+m - b,c,rfl,rfl,zb,zb,zb,zb,zb,.inr zb,.inr rfl⟩
      ·have L:m<=c:=jO e;refine zz ?_;exact⟨a,m,rfl,rfl,zb,zb,zb,zb,zb,.inl rfl,.inl rfl⟩
     rintro T h' ⟨lo,up,rfl,t0,t1,t2,t3,t4,t,I,v,Z,b1,b2,b3,b4,b5,b6,b7⟩;rw[jS];refine yr (λT U=>∃s:Nat,U=h'/\T 0= .tl id st/\T 1=i64 a/\T 2=i64 m/\T 3=i64 b/\T 4= .fn (.func 95) [] []/\T 18=i64 c/\T 19=i64 (c+m:Nat)/\T 20=i64 s/\lo<=s/\s<=up/\(s=lo∨ltE D[c - s]! A[s - a - 1]! =false)/\(s=up∨ltE D[c - s - 1]! A[s - a]! =true)) ?_ ?_
     ·have w4:wr (((c+m:Nat):Int) - 1)=((c+m - 1:Nat):Int):=Jj zb zb;simp only[go_sem,I,w4]
      refine wp_loop_a ze (λk T U=>∃s r:Nat,U=h'/\T 0= .tl id st/\T 1=i64 a/\T 2=i64 m/\T 3=i64 b/\T 4= .fn (.func 95) [] []/\T 18=i64 c/\T 19=i64 (c+m:Nat)/\T 22=i64 (c+m - 1:Nat)/\T 20=i64 s/\T 21=i64 r/\lo<=s/\s<=r/\r<=up/\(s=lo∨ltE D[c - s]! A[s - a - 1]! =false)/\(r=up∨ltE D[c - r - 1]! A[r - a]! =true)/\k=r - s) (up - lo)
       ⟨lo,up,rfl,by simp only[go_sem,t0],by simp only[go_sem,t1],by simp only[go_sem,t2],by simp only[go_sem,t3],by simp only[go_sem,t4],by simp only[go_sem,t],by simp only[go_sem,I],zo,by simp only[go_sem,v],by simp only[go_sem,Z],zb,zb,zb,.inl rfl,.inl rfl,rfl⟩ ?_
      clear t0 t1 t2 t3 t4 t I v Z;rintro n T U ⟨s,r,rfl,t0,t1,t2,t3,t4,t,I,t22,v,Z,d1,d2,d3,d4,d5,rfl⟩;simp only[go_sem,v,Z];refine ways (λe=>?_) (λe=>?_)
      ·have K:s<r:=dlt e;have η:=KV (i:=s) (j:=r) zb;obtain⟨x,hx⟩:∃x,x=(s+r) / 2:=⟨_,rfl⟩;rw[<-hx] at η;have w5:wr (((c+m - 1:Nat):Int) - (x:Int))=((c+m - 1 - x:Nat):Int):=vO zb zb;obtain⟨l,E⟩:∃l,l=P++(A++(D++Q)):=⟨_,rfl⟩;have α:l.length=P.length+A.length+D.length+Q.length:=by rw[E];simp;omega
       have ra:(l.map evC)[c+m - 1 - x]? =some (evC D[c - x - 1]!):=jz (by
        rw[E,kla zb zb,show c+m - 1 - x - (P.length+A.length)=c - x - 1 by omega])
       have rb:(l.map evC)[x]? =some (evC A[x - a]!):=jz (by
        rw[E,YZ zb zb,ha])
       have la:=jr (a:=c+m - 1 - x) (b:=l.length) zb;have lb:=jr (a:=x) (b:=l.length) zb;rw[<-E] at hi;simp only[go_sem,v,Z,η];refine zZ [] 0 (oF [0,1,2,3,4,7,8,5,6,9,10,11,12,13] ([])) ?_;simp only[go_sem,t0,t4,t22,hi,w5,ra,rb,la,lb,zc,Int.toNat_natCast,zd];refine zl (c89 _ _ _) ?_;rintro _ Y ⟨rfl,e3⟩;subst e3;refine zz ?_;refine ways (λN=>?_) (λN=>?_)
       ·have N:ltE D[c - x - 1]! A[x - a]! =false:=by
         have:(!ltE D[c - x - 1]! A[x - a]!)=true:=N;simpa using this
        have w6:wr ((x:Int)+1)=((x+1:Nat):Int):=jM zb;simp only[go_sem,w6,Z];refine⟨r - (x+1),zb,x+1,r,t0,t1,t2,t3,t4,t,I,t22,rfl,rfl,zb,zb,zb,.inr ?_,d5,rfl⟩;rw[show c - (x+1)=c - x - 1 by omega,show x+1 - a - 1=x - a by omega];exact N
       ·have N:ltE D[c - x - 1]! A[x - a]! =true:=by
         have:(!ltE D[c - x - 1]! A[x - a]!)=false:=N;simpa using this
        simp only[go_sem,v];exact⟨x - s,zb,s,x,t0,t1,t2,t3,t4,t,I,t22,rfl,rfl,zb,zb,zb,d4,.inr N,rfl⟩
      ·have L:r<=s:=jO e;have:r=s:=zb;subst this;refine zz ?_;exact⟨r,t0,t1,t2,t3,t4,t,I,v,zb,zb,d4,d5⟩
     clear t0 t1 t2 t3 t4 t I v Z;rintro T U ⟨s,rfl,t0,t1,t2,t3,t4,t,I,v,d1,d2,d4,d5⟩
     have φ:=qaa sA sD (i:=s - a) (j:=c - s) zb zb
      (by rcases d4 with d|d
          ·omega
          ·exact .inr (.inr d))
      (by rcases d5 with d|d
          ·omega
          ·exact .inr (.inr d))
     obtain⟨W,X,f,p,rfl,rfl,hA1,hD1,φ⟩:∃W X f p,A=W++X/\D=f++p/\W.length=s - a/\f.length=c - s/\mergeE A D=mergeE W f++mergeE X p:=
      ⟨_,_,_,_,(qc _ _).symm,(qc _ _).symm,zE,zE,φ⟩
     rw[φ];simp only[zp] at hb hl hm hn;have sA1:=(jN.1 sA).1;have sA2:=(jN.1 sA).2.1;have sD1:=(jN.1 sD).1;have sD2:=(jN.1 sD).2.1;rw[jS];refine yr (λT Y=>Y=U.set id (qJ (P++(W++(f++(X++(p++Q))))) st)/\T 0= .tl id st/\T 1=i64 a/\T 3=i64 b/\T 4= .fn (.func 95) [] []/\T 18=i64 c/\T 20=i64 s/\T 24=i64 (c+m - s:Nat)) ?_ ?_
     ·have w7:wr (((c+m:Nat):Int) - (s:Int))=((c+m - s:Nat):Int):=vO zb zb;have hl1:X.length=0->f.length=0∨f.length≠0:=λ_=>zb
      have C:X=[]∨f=[]->U=U.set id (qJ (P++(W++(f++(X++(p++Q))))) st):=by
       rintro (rfl|rfl)<;>exact(jA (by rw[hi];simp)).symm
      rcases Nat.lt_or_ge s m with K|L
      ·have f1:decide ((s:Int)<(m:Int))=true:=decide_eq_true zb;rcases Nat.lt_or_ge m (c+m - s) with O|L
       ·have f2:decide ((m:Int)<((c+m - s:Nat):Int))=true:=decide_eq_true zb;simp only[go_sem,t0,I,v,t2,t4,w7,f1,f2,qv];refine zl (c129 _ id st _ _ _ (P++W) X f (p++Q) _ (by rw[hi];simp) zE zE zE zb zb zE) ?_;rintro _ Y ⟨rfl,e3⟩;subst e3;refine zz ?_;exact⟨t0,t1,t3,t4,t,v⟩
       ·have f2:decide ((m:Int)<((c+m - s:Nat):Int))=false:=decide_eq_false zb;simp only[go_sem,t0,I,v,t2,t4,w7,f1,f2,qv];exact⟨C (.inr (zy zb)),t1,t3,t⟩
      ·have f1:decide ((s:Int)<(m:Int))=false:=decide_eq_false zb;simp only[go_sem,t0,I,v,t2,t4,w7,f1,qv];exact⟨C (.inl (zy zb)),t1,t3,t⟩
     clear t0 t1 t2 t3 t4 t I v;rintro T Y ⟨rfl,t0,t1,t3,t4,t,v,V⟩;refine yr (λT Y=>Y=U.set id (qJ (P++(mergeE W f++(X++(p++Q)))) st)/\T 0= .tl id st/\T 3=i64 b/\T 4= .fn (.func 95) [] []/\T 18=i64 c/\T 24=i64 (c+m - s:Nat)) ?_ ?_
     ·have C:W=[]∨f=[]->P++(W++(f++(X++(p++Q))))=P++(mergeE W f++(X++(p++Q))):=by
       rintro (rfl|rfl)
       ·rw[j9];rfl
       ·rw[jP];rfl
      rcases Nat.lt_or_ge a s with K|L
      ·have f1:decide ((a:Int)<(s:Int))=true:=decide_eq_true zb;rcases Nat.lt_or_ge s c with O|L
       ·have f2:decide ((s:Int)<(c:Int))=true:=decide_eq_true zb;simp only[go_sem,t0,t1,t4,t,v,f1,f2,qv];refine zl (c117 n _ id st _ _ _ P W f (X++(p++Q)) (hg _) ha zb zb zb zb sA1 sD1 zE zb) ?_;rintro _ Y ⟨rfl,e3⟩;subst e3;simp only[go_sem,qB];exact⟨t0,t3,t4,t,V⟩
       ·have f2:decide ((s:Int)<(c:Int))=false:=decide_eq_false zb;simp only[go_sem,t0,t1,t4,t,v,f1,f2,qv];exact⟨by rw[C (.inr (zy zb))],t3,V⟩
      ·have f1:decide ((a:Int)<(s:Int))=false:=decide_eq_false zb;simp only[go_sem,t0,t1,t4,t,v,f1,qv];exact⟨by rw[C (.inl (zy zb))],t3,V⟩
     clear t0 t1 t3 t4 t v V;rintro T Y ⟨rfl,t0,t3,t4,t,V⟩;have μ:(mergeE W f).length=W.length+f.length:=z6a _ _
     have C:X=[]∨p=[]->P++(mergeE W f++(X++(p++Q)))=P++(mergeE W f++mergeE X p++Q):=by
      rintro (rfl|rfl)
      ·rw[j9];simp
      ·rw[jP];simp
     rcases Nat.lt_or_ge c (c+m - s) with K|L
     ·have f1:decide ((c:Int)<((c+m - s:Nat):Int))=true:=decide_eq_true zb;rcases Nat.lt_or_ge (c+m - s) b with O|L
      ·have f2:decide (((c+m - s:Nat):Int)<(b:Int))=true:=decide_eq_true zb;simp only[go_sem,t0,t3,t4,t,V,f1,f2,qv];refine qx (c117 n _ id st _ _ _ (P++mergeE W f) X p Q (by rw[hg];simp) (by simp[μ];omega) (by simp[μ];omega) (by simp[μ];omega) zb zb sA2 sD2 (by simp[μ];omega) zb) ?_;simp only[go_sem,qB];exact⟨.tup [],zo,.inl ⟨rfl,zh⟩⟩
      ·have f2:decide (((c+m - s:Nat):Int)<(b:Int))=false:=decide_eq_false zb;simp only[go_sem,t0,t3,t4,t,V,f1,f2,qv];exact⟨.tup [],zo,.inl ⟨rfl,by rw[C (.inr (zy zb))];simp⟩⟩
     ·have f1:decide ((c:Int)<((c+m - s:Nat):Int))=false:=decide_eq_false zb;simp only[go_sem,t0,t3,t4,t,V,f1,qv];exact⟨.tup [],zo,.inl ⟨rfl,by rw[C (.inl (zy zb))];simp⟩⟩
end
