import Derived.Test.YtigdlmpjijhpaaaGreatBA
import Derived.Test.YtigdlmpjijhpaaaGreatB15
import Derived.Test.YtigdlmpjijhpaaaGreatB11
set_option linter.all false
namespace Go.Proofs.YtigdlmpjijhpaaaGreat.Ax
open Go Go.Proofs
set_option maxRecDepth 100000
attribute [go_sem] Q6a
theorem jLa{i j:Nat}(h:i+j<4611686018427387904):IntKind.wrap .i64 ((IntKind.wrap .u64 (IntKind.wrap .i64 ((i:Int)+(j:Int)))).fdiv (2 ^ min 1 64))=(((i+j) / 2:Nat):Int):=by
 rw[show IntKind.wrap .i64 ((i:Int)+(j:Int))=((i+j:Nat):Int) from Z8 h,show IntKind.wrap .u64 ((i+j:Nat):Int)=((i+j:Nat):Int) by rw[IntKind.wrap_u64];omega,
  Int.fdiv_eq_ediv_of_nonneg _ (by decide),show((2:Int) ^ min 1 64)=2 by decide,Go.IntWalk.i64_in _ (by omega)]
 omega
theorem jV{a b:Nat}(h:a=b):i64 (a:Int)=i64 (b:Int):=by rw[h]
theorem yoa{P A R:List Ev}{i:Nat}(b:P.length<=i)(a:i - P.length<A.length):(P++(A++R))[i]? =some A[i - P.length]! :=by
 rw[zQ b,zH a,zi a,getElem!_pos A _ a]
theorem Vca{P A D R:List Ev}{i:Nat}(b:P.length+A.length<=i)(a:i - (P.length+A.length)<D.length):(P++(A++(D++R)))[i]? =some D[i - (P.length+A.length)]! :=by
 rw[<-zp]
 have:=yoa (P:=P++A) (A:=D) (R:=R) (i:=i) (by simp;omega) (by simp;omega)
 rw[this,ze]
theorem qD{b:Bool}:(b==true)=b:=by cases b<;>rfl
theorem xR{a b:Nat}(h:a<b):(a:Int)<(b:Int):=by omega
theorem WS{l:List Ev}(h:Srt l){p q:Nat}(f:p<=q)(b:q<l.length):ltE l[q]! l[p]! =false:=by
 induction l generalizing p q with
 | nil=>simp at b
 | cons x l e=>
   obtain⟨d,c⟩:=h
   cases q with
   | zero=>
     have:p=0:=by omega
     subst this
     rw[kJ];simp
   | succ q=>
     have a:q<l.length:=by simpa using b
     cases p with
     | zero=>
       simp only[List.getElem!_cons_succ,List.getElem!_cons_zero]
       exact d _ (by rw[getElem!_pos l q a];exact zD a)
     | succ p=>
       simp only[List.getElem!_cons_succ]
       exact e c (by omega) a
theorem KI{l:List Ev}{x:Ev}{i:Nat}(h:x∈l.take i):∃p,p<i/\p<l.length/\l[p]! =x:=by
 obtain⟨p,a,b⟩:=List.mem_iff_getElem.1 h
 rw[qa] at a
 refine⟨p,by omega,by omega,?_⟩
 rw[getElem!_pos l p (by omega), <-b,List.getElem_take]
theorem KJ{l:List Ev}{x:Ev}{i:Nat}(h:x∈l.drop i):∃p,i<=p/\p<l.length/\l[p]! =x:=by
 obtain⟨p,a,b⟩:=List.mem_iff_getElem.1 h
 rw[List.length_drop] at a
 refine⟨i+p,by omega,by omega,?_⟩
 rw[getElem!_pos l (i+p) (by omega), <-b,List.getElem_drop]
theorem ZWa{A D:List Ev}(d:Srt A)(l:Srt D){i j:Nat}(hi:i<=A.length)(r:j<=D.length)(n:i=0∨j=D.length∨ltE D[j]! A[i - 1]! =false)(o:i=A.length∨j=0∨ltE D[j - 1]! A[i]! =true):mergeE A D=mergeE (A.take i) (D.take j)++mergeE (A.drop i) (D.drop j):=by
 conv=>lhs;rw[<-qL i A, <-qL j D]
 refine JD (λx a y b=>?_) (λx a y b=>?_)
 ·obtain⟨p,f,e,rfl⟩:=KI a
  obtain⟨q,m,h,rfl⟩:=KJ b
  rcases n with c|c|c
  ·omega
  ·omega
  ·have k:=WS d (p:=p) (q:=i - 1) (by omega) (by omega)
   have g:=WS l m h
   rw[kJ] at *; omega
 ·obtain⟨p,f,e,rfl⟩:=KJ a
  obtain⟨q,m,h,rfl⟩:=KI b
  rcases o with c|c|c
  ·omega
  ·omega
  ·have k:=WS d f e
   have g:=WS l (p:=q) (q:=j - 1) (by omega) (by omega)
   rw[kJ] at k g;rw[wv] at *; omega
theorem YBa{a:List Ev}{x z:Ev}(h:Srt (a++[x]))(b:ltE x z=true):∀y∈a++[x],ltE y z=true:=ZTa h b
theorem YCa{a:List Ev}{x z:Ev}(h:Srt (x::a))(b:ltE x z=false):∀y∈x::a,ltE y z=false:=xXa h b
set_option maxHeartbeats 4000000 in
theorem Vda:∀(n:Nat) (h:List Ob) (id st a m b:Nat) (P A D Q:List Ev) (hi:h[id]? =some (jg (P++(A++(D++Q))) st)) (ha:a=P.length) (hm:m=P.length+A.length) (hb:b=P.length+A.length+D.length) (hA:0<A.length) (hD:0<D.length) (sA:Srt A) (sD:Srt D) (hl:P.length+A.length+D.length+Q.length<1099511627776) (hn:A.length+D.length<=n),
  ACalls Tryz.prog 238 [.tl id st,i64 a,i64 m,i64 b,.fn (.func 111) [] []] h λr h'=>r= .tup []/\h'=h.set id (jg (P++(mergeE A D++Q)) st)
 | 0,_,_,_,_,_,_,_,_,_,_,_,_,_,_,_,_,_,_,_,hn=>by omega
 | n+1,h,id,st,a,m,b,P,A,D,Q,hi,ha,hm,hb,hA,hD,sA,sD,hl,hn=>by
   have hg:∀o,(h.set id o)[id]? =some o:=λo=>zq hi
   have w1:wr ((m:Int) - (a:Int))=(A.length:Int):=by rw[yT (by omega) (by omega)];omega
   refine zj Tryz.f238 [] 220 rfl rfl rfl rfl rfl rfl (by decide) (⟨_,_,⟨rfl,rfl⟩,qj hi rfl⟩) λB=>?_
   simp only[go_sem,w1]
   refine ways (λe=>?_) (λe=>?_)
   ·obtain⟨x,rfl⟩:∃x,A=[x]:=by
     have:A.length=1:=by
      have:(A.length:Int)=1:=by simpa using e
      omega
     exact List.length_eq_one_iff.1 this
    simp only[go_sem]
    refine zP (by decide) (λn T h'=>∃f p G,D=f++(p++G)/\(∀y∈f,ltE y x=true)/\(∀y∈G,ltE y x=false)/\h'=h/\T 0= .tl id st/\T 1=i64 a/\T 4= .fn (.func 111) [] []/\T 10=i64 (m+f.length:Nat)/\T 11=i64 (m+f.length+p.length:Nat)/\n=p.length) D.length
     ⟨[],D,[],by simp,by simp,by simp,rfl,by simp only[go_sem],by simp only[go_sem],by simp only[go_sem],by simp only[go_sem],by(simp only[go_sem,hb,hm,List.length_nil]),rfl⟩ ?_
    rintro n T h' ⟨f,p,G,rfl,h1,S,rfl,t0,t1,t4,t10,μ,rfl⟩
    simp only[go_sem,t10,μ]
    refine ways (λe=>?_) (λe=>?_)
    ·have K:=dlt e
     simp only[go_sem,t10,μ]
     have F:=jLa (i:=m+f.length) (j:=m+f.length+p.length) (by simp at hl hm;omega)
     obtain⟨u,y,H,rfl,hE⟩:∃u y H,p=u++y::H/\u.length=p.length / 2:=by
      have O:p.length / 2<p.length:=by omega
      refine⟨p.take (p.length / 2),p[p.length / 2],p.drop (p.length / 2+1),?_,by simp;omega⟩
      rw[<-qI O,qL]
     have C:P++([x]++((f++(u++y::H++G))++Q))=(P++([x]++(f++u)))++y::(H++(G++Q)):=by simp
     obtain⟨l,E⟩:∃l,l=P++([x]++((f++(u++y::H++G))++Q)):=⟨_,rfl⟩
     rw[<-E] at hi C
     simp only[ze,List.length_cons,List.length_nil] at hb hl hm hE K F hn t10 μ
     have β:l.length=P.length+1+f.length+u.length+1+H.length+G.length+Q.length:=by rw[C];simp;omega
     have hx:(m+f.length+(m+f.length+(u.length+(H.length+1)))) / 2=m+f.length+u.length:=by omega
     rw[hx] at F
     have ra:(l.map evC)[m+f.length+u.length]? =some (evC y):=j9 (by rw[C];exact Qi (by simp;omega))
     have rb:(l.map evC)[a]? =some (evC x):=j9 (by rw[E,ha];simp)
     have la:=xR (a:=m+f.length+u.length) (b:=l.length) (by omega)
     have lb:=xR (a:=a) (b:=l.length) (by omega)
     simp only[go_sem,F]
     refine zV rfl [] 0 [(0,0,[]),(1,0,[]),(2,0,[]),(5,0,[]),(6,0,[]),(3,0,[]),(4,0,[]),(7,0,[]),(8,0,[]),(9,0,[]),(10,0,[])] rfl (by decide) (by decide) ?_
     simp only[go_sem,t0,t1,t4,hi,ra,rb,la,lb,zb,Int.toNat_natCast,zh]
     refine zg (c89 y x _) ?_
     rintro _ W ⟨rfl,e3⟩
     subst e3
     simp only[go_sem]
     have sM:Srt (u++y::H):=(xW.1 (xW.1 sD).2.1).1
     refine ways (λM=>?_) (λM=>?_)
     ·have M:ltE y x=true:=M
      simp only[go_sem,μ]
      have q1:=qm (k:=m+f.length+u.length) (m:=m+(f++(u++[y])).length) (by omega) (by simp;omega)
      refine⟨H.length,by omega,f++(u++[y]),H,G,by simp,λz N=>?_,S,t0,t1,t4,q1,?_,rfl⟩
      ·rcases zJ.1 N with N|N
       ·exact h1 z N
       ·exact YBa (x:=y) (a:=u) ((xW (a:=u++[y]) (b:=H)).1 (by simpa using sM)).1 M z N
      ·exact jV (by simp;omega)
     ·have M:ltE y x=false:=M
      simp only[go_sem,t10]
      refine⟨u.length,by omega,f,u,y::H++G,by simp,h1,λz N=>?_,t0,t1,t4,rfl,rfl,rfl⟩
      ·rcases zJ.1 N with N|N
       ·exact YCa (x:=y) (a:=H) (xW.1 sM).2.1 M z N
       ·exact S z N
    ·have L:=xb e
     have:p=[]:=zC (by omega)
     subst this
     rw[List.nil_append,xVa h1 S]
     simp only[ze,List.length_cons,List.length_nil] at hb hl hm hn
     rw[List.nil_append] at hi
     simp only[go_sem,t1]
     refine zP (by decide) (λn T W=>∃g J,f=g++J/\W=h'.set id (jg (P++(g++(x::(J++(G++Q))))) st)/\T 0= .tl id st/\T 1=i64 a/\T 4= .fn (.func 111) [] []/\T 10=i64 (m+f.length:Nat)/\T 13=i64 (a+g.length:Nat)/\n=J.length) f.length
      ⟨[],f,rfl,(qM (by rw[hi];simp)).symm,by simp only[go_sem,t0],by simp only[go_sem,t1],by simp only[go_sem,t4],by simp only[go_sem,t10],by simp only[go_sem,List.length_nil],rfl⟩ ?_
     rintro n T W ⟨g,J,rfl,rfl,t0,t1,t4,t10,t13,rfl⟩
     simp only[ze,List.length_cons,List.length_nil] at hb hl t10
     have w2:wr (((m+(g.length+J.length):Nat):Int) - 1)=((a+(g.length+J.length):Nat):Int):=by rw[KH (by omega) (by omega)];omega
     simp only[go_sem,t10,t13,w2,ze]
     refine ways (λe=>?_) (λe=>?_)
     ·have K:=dlt e
      cases J with
      | nil=>simp at K
      | cons y J=>
      simp only[ze,List.length_cons,List.length_nil] at hb hl
      obtain⟨l,E⟩:∃l,l=P++(g++(x::(y::J++(G++Q)))):=⟨_,rfl⟩
      have C:l=(P++g)++x::([]++y::(J++(G++Q))):=by rw[E];simp
      have β:l.length=P.length+g.length+2+J.length+G.length+Q.length:=by rw[C];simp;omega
      have i1:a+g.length=(P++g).length:=by simp;omega
      have i2:a+g.length+1=(P++g).length+1+([]:List Ev).length:=by simp;omega
      have ra:(l.map evC)[a+g.length]? =some (evC x):=j9 (by rw[C];exact Qi i1)
      have rb:(l.map evC)[a+g.length+1]? =some (evC y):=j9 (by
       rw[C,show(P++g)++x::([]++y::(J++(G++Q)))=((P++g)++[x])++y::(J++(G++Q)) by simp]
       exact Qi (by rw[i2];simp;omega))
      have la:=xR (a:=a+g.length) (b:=l.length) (by omega)
      have lb:=xR (a:=a+g.length+1) (b:=l.length) (by omega)
      have wb:wr (((a+g.length:Nat):Int)+1)=((a+g.length+1:Nat):Int):=xx (by omega)
      obtain⟨q,q1,q2⟩:=WR (l:=l) (i:=a+g.length) (j:=a+g.length+1) y (by omega)
      have sw:=Vy C i1 i2
      rw[<-E]
      simp only[go_sem]
      refine zV rfl [] 0 [(0,0,[]),(1,0,[]),(2,0,[]),(3,0,[]),(4,0,[]),(5,0,[]),(6,0,[]),(7,0,[]),(10,0,[]),(11,0,[]),(8,0,[]),(9,0,[]),(12,0,[]),(13,0,[]),(14,0,[]),(15,0,[]),(16,0,[]),(17,0,[])] rfl (by decide) (by decide) ?_
      simp only[go_sem,t13,t0,hg,ra,rb,q1,q2,la,lb,wb,zb,Int.toNat_natCast,zh,zU]
      refine⟨J.length,by simp,g++[y],J,by simp,?_,t1,t4,t10,?_,rfl⟩
      ·rw[sw];exact congrArg (λl=>h'.set id (jg l st)) (by simp)
      ·exact jV (by simp;omega)
     ·have L:=xb e
      have:J=[]:=zC (by simp at L;omega)
      subst this
      simp only[go_sem]
      exact⟨.tup [],by simp only[go_sem],.inl ⟨rfl,by simp⟩⟩
   ·have w2:wr ((b:Int) - (m:Int))=(D.length:Int):=by rw[yT (by omega) (by omega)];omega
    simp only[go_sem,w2]
    have hA2:2<=A.length:=by
     have:¬ (A.length:Int)=1:=by simpa using e
     omega
    refine ways (λe=>?_) (λe=>?_)
    ·obtain⟨x,rfl⟩:∃x,D=[x]:=by
      have:D.length=1:=by
       have:(D.length:Int)=1:=by simpa using e
       omega
      exact List.length_eq_one_iff.1 this
     simp only[go_sem]
     simp only[ze,List.length_cons,List.length_nil] at hb hl hm hn
     refine zP (by decide) (λn T h'=>∃f p G,A=f++(p++G)/\(∀y∈f,ltE x y=false)/\(∀y∈G,ltE x y=true)/\h'=h/\T 0= .tl id st/\T 2=i64 m/\T 4= .fn (.func 111) [] []/\T 14=i64 (a+f.length:Nat)/\T 15=i64 (a+f.length+p.length:Nat)/\n=p.length) A.length
      ⟨[],A,[],by simp,by simp,by simp,rfl,by simp only[go_sem],by simp only[go_sem],by simp only[go_sem],by simp only[go_sem],by(simp only[go_sem,hb,hm,ha,List.length_nil]),rfl⟩ ?_
     rintro n T h' ⟨f,p,G,rfl,h1,S,rfl,t0,t2,t4,R,ξ,rfl⟩
     simp only[go_sem,R,ξ]
     simp only[ze,List.length_cons,List.length_nil] at hb hl hm hn
     refine ways (λe=>?_) (λe=>?_)
     ·have K:=dlt e
      have F:=jLa (i:=a+f.length) (j:=a+f.length+p.length) (by omega)
      obtain⟨u,y,H,rfl,hE⟩:∃u y H,p=u++y::H/\u.length=p.length / 2:=by
       have O:p.length / 2<p.length:=by omega
       refine⟨p.take (p.length / 2),p[p.length / 2],p.drop (p.length / 2+1),?_,by simp;omega⟩
       rw[<-qI O,qL]
      have C:P++((f++(u++y::H++G))++([x]++Q))=(P++(f++u))++y::(H++(G++([x]++Q))):=by simp
      obtain⟨l,E⟩:∃l,l=P++((f++(u++y::H++G))++([x]++Q)):=⟨_,rfl⟩
      rw[<-E] at hi C
      simp only[ze,List.length_cons,List.length_nil] at hb hl hm hE K F hn R ξ
      have β:l.length=P.length+f.length+u.length+1+H.length+G.length+1+Q.length:=by rw[C];simp;omega
      have hx:(a+f.length+(a+f.length+(u.length+(H.length+1)))) / 2=a+f.length+u.length:=by omega
      rw[hx] at F
      have ra:(l.map evC)[a+f.length+u.length]? =some (evC y):=j9 (by rw[C];exact Qi (by simp;omega))
      have rb:(l.map evC)[m]? =some (evC x):=j9 (by
       rw[E,show P++((f++(u++y::H++G))++([x]++Q))=(P++(f++(u++y::H++G)))++x::Q by simp]
       exact Qi (by rw[hm];simp;omega))
      have la:=xR (a:=a+f.length+u.length) (b:=l.length) (by omega)
      have lb:=xR (a:=m) (b:=l.length) (by omega)
      simp only[go_sem,R,ξ,F]
      refine zV rfl [] 0 [(0,0,[]),(1,0,[]),(2,0,[]),(5,0,[]),(6,0,[]),(3,0,[]),(4,0,[]),(7,0,[]),(8,0,[]),(9,0,[]),(10,0,[]),(11,0,[])] rfl (by decide) (by decide) ?_
      simp only[go_sem,t0,t2,t4,hi,ra,rb,la,lb,zb,Int.toNat_natCast,zh]
      refine zg (c89 x y _) ?_
      rintro _ W ⟨rfl,e3⟩
      subst e3
      simp only[go_sem]
      have sM:Srt (u++y::H):=(xW.1 (xW.1 sA).2.1).1
      refine ways (λM=>?_) (λM=>?_)
      ·have M:ltE x y=false:=by
        have:(!ltE x y)=true:=M
        simpa using this
       simp only[go_sem,ξ]
       have q1:=qm (k:=a+f.length+u.length) (m:=a+(f++(u++[y])).length) (by omega) (by simp;omega)
       refine⟨H.length,by omega,f++(u++[y]),H,G,by simp,λz N=>?_,S,t0,t2,t4,q1,?_,rfl⟩
       ·rcases zJ.1 N with N|N
        ·exact h1 z N
        ·exact xWa (x:=y) (a:=u) ((xW (a:=u++[y]) (b:=H)).1 (by simpa using sM)).1 M z N
       ·exact jV (by simp;omega)
      ·have M:ltE x y=true:=by
        have:(!ltE x y)=false:=M
        simpa using this
       simp only[go_sem,R]
       refine⟨u.length,by omega,f,u,y::H++G,by simp,h1,λz N=>?_,t0,t2,t4,rfl,rfl,rfl⟩
       ·rcases zJ.1 N with N|N
        ·exact ZUa (x:=y) (a:=H) (xW.1 sM).2.1 M z N
        ·exact S z N
     ·have L:=xb e
      have:p=[]:=zC (by omega)
      subst this
      rw[List.nil_append,YD h1 S]
      simp only[ze,List.length_cons,List.length_nil] at hb hl hm hn
      rw[List.nil_append] at hi
      simp only[go_sem,t2]
      refine zP (by decide) (λn T W=>∃g J,G=g++J/\W=h'.set id (jg (P++(f++(g++(x::(J++Q))))) st)/\T 0= .tl id st/\T 2=i64 m/\T 4= .fn (.func 111) [] []/\T 14=i64 (a+f.length:Nat)/\T 17=i64 (a+f.length+g.length:Nat)/\n=g.length) G.length
       ⟨G,[],by simp,(qM (by rw[hi];simp)).symm,by simp only[go_sem,t0],by simp only[go_sem,t2],by simp only[go_sem,t4],by simp only[go_sem,R],jV (by omega),rfl⟩ ?_
      rintro n T W ⟨g,J,rfl,rfl,t0,t2,t4,R,υ,rfl⟩
      simp only[ze,List.length_cons,List.length_nil] at hb hl R
      simp only[go_sem,R,υ]
      refine ways (λe=>?_) (λe=>?_)
      ·have K:=dlt e
       rcases List.eq_nil_or_concat g with rfl|⟨g,y,rfl⟩
       ·simp at K
       rw[List.concat_eq_append] at*
       simp only[ze,List.length_cons,List.length_nil,Nat.zero_add] at hb hl υ
       obtain⟨l,E⟩:∃l,l=P++(f++(g++[y]++(x::(J++Q)))):=⟨_,rfl⟩
       have C:l=(P++(f++g))++y::([]++x::(J++Q)):=by rw[E];simp
       have β:l.length=P.length+f.length+g.length+2+J.length+Q.length:=by rw[C];simp;omega
       have i1:a+f.length+g.length=(P++(f++g)).length:=by simp;omega
       have i2:a+f.length+(g.length+1)=(P++(f++g)).length+1+([]:List Ev).length:=by simp;omega
       have ra:(l.map evC)[a+f.length+g.length]? =some (evC y):=j9 (by rw[C];exact Qi i1)
       have rb:(l.map evC)[a+f.length+(g.length+1)]? =some (evC x):=j9 (by
        rw[C,show(P++(f++g))++y::([]++x::(J++Q))=((P++(f++g))++[y])++x::(J++Q) by simp]
        exact Qi (by rw[i2];simp;omega))
       have la:=xR (a:=a+f.length+g.length) (b:=l.length) (by omega)
       have lb:=xR (a:=a+f.length+(g.length+1)) (b:=l.length) (by omega)
       have wb:wr (((a+f.length+(g.length+1):Nat):Int) - 1)=((a+f.length+g.length:Nat):Int):=by
        rw[KH (by omega) (by omega)];omega
       obtain⟨q,q1,q2⟩:=WR (l:=l) (i:=a+f.length+(g.length+1)) (j:=a+f.length+g.length) y (by omega)
       have sw:=YF C i1 i2
       rw[<-E]
       simp only[go_sem]
       refine zV rfl [] 0 [(0,0,[]),(1,0,[]),(2,0,[]),(3,0,[]),(4,0,[]),(5,0,[]),(6,0,[]),(7,0,[]),(10,0,[]),(11,0,[]),(8,0,[]),(9,0,[]),(12,0,[]),(13,0,[]),(14,0,[]),(15,0,[]),(16,0,[]),(17,0,[])] rfl (by decide) (by decide) ?_
       simp only[go_sem,υ,t0,hg,ra,rb,q1,q2,la,lb,wb,zb,Int.toNat_natCast,zh,zU]
       refine⟨g.length,by simp,g,y::J,by simp,?_,t2,t4,?_,rfl,rfl⟩
       ·rw[sw];exact congrArg (λl=>h'.set id (jg l st)) (by simp)
       ·exact R.trans (jV (by simp))
      ·have L:=xb e
       have:g=[]:=zC (by omega)
       subst this
       simp only[go_sem]
       exact⟨.tup [],by simp only[go_sem],.inl ⟨rfl,by simp⟩⟩
    ·simp only[Yo,jwa]
     have hD2:2<=D.length:=by
      have:¬ (D.length:Int)=1:=by simpa using e
      omega
     obtain⟨c,hc⟩:∃c,c=(a+b) / 2:=⟨_,rfl⟩
     have F:=jLa (i:=a) (j:=b) (by omega)
     rw[<-hc] at F
     have w3:wr ((c:Int)+(m:Int))=((c+m:Nat):Int):=Z8 (by omega)
     rw[xG,xG,xG]
     refine QK (λT h'=>∃lo up:Nat,h'=h/\T 0= .tl id st/\T 1=i64 a/\T 2=i64 m/\T 3=i64 b/\T 4= .fn (.func 111) [] []/\T 18=i64 c/\T 19=i64 (c+m:Nat)/\T 20=i64 lo/\T 21=i64 up/\a<=lo/\lo<=up/\up<=m/\c+m<=b+lo/\up<=c/\(lo=a∨c+m=b+lo)/\(up=m∨up=c)) ?_ ?_
     ·simp only[go_sem,F,w3]
      refine ways (λe=>?_) (λe=>?_)
      ·have K:c<m:=dlt e
       have w4:wr (((c+m:Nat):Int) - (b:Int))=((c+m - b:Nat):Int):=yT (by omega) (by omega)
       simp only[go_sem,w4]
       exact⟨c+m - b,c,rfl,rfl,by omega,by omega,by omega,by omega,by omega,.inr (by omega),.inr rfl⟩
      ·have L:m<=c:=xb e
       simp only[go_sem]
       exact⟨a,m,rfl,rfl,by omega,by omega,by omega,by omega,by omega,.inl rfl,.inl rfl⟩
     rintro T h' ⟨lo,up,rfl,t0,t1,t2,t3,t4,t,I,v,Y,b1,b2,b3,b4,b5,b6,b7⟩
     rw[xG]
     refine QK (λT W=>∃s:Nat,W=h'/\T 0= .tl id st/\T 1=i64 a/\T 2=i64 m/\T 3=i64 b/\T 4= .fn (.func 111) [] []/\T 18=i64 c/\T 19=i64 (c+m:Nat)/\T 20=i64 s/\lo<=s/\s<=up/\(s=lo∨ltE D[c - s]! A[s - a - 1]! =false)/\(s=up∨ltE D[c - s - 1]! A[s - a]! =true)) ?_ ?_
     ·have w4:wr (((c+m:Nat):Int) - 1)=((c+m - 1:Nat):Int):=KH (by omega) (by omega)
      simp only[go_sem,I,w4]
      refine zP (by decide) (λk T W=>∃s r:Nat,W=h'/\T 0= .tl id st/\T 1=i64 a/\T 2=i64 m/\T 3=i64 b/\T 4= .fn (.func 111) [] []/\T 18=i64 c/\T 19=i64 (c+m:Nat)/\T 22=i64 (c+m - 1:Nat)/\T 20=i64 s/\T 21=i64 r/\lo<=s/\s<=r/\r<=up/\(s=lo∨ltE D[c - s]! A[s - a - 1]! =false)/\(r=up∨ltE D[c - r - 1]! A[r - a]! =true)/\k=r - s) (up - lo)
       ⟨lo,up,rfl,by simp only[go_sem,t0],by simp only[go_sem,t1],by simp only[go_sem,t2],by simp only[go_sem,t3],by simp only[go_sem,t4],by simp only[go_sem,t],by simp only[go_sem,I],by simp only[go_sem],by simp only[go_sem,v],by simp only[go_sem,Y],by omega,by omega,by omega,.inl rfl,.inl rfl,rfl⟩ ?_
      clear t0 t1 t2 t3 t4 t I v Y
      rintro n T W ⟨s,r,rfl,t0,t1,t2,t3,t4,t,I,t22,v,Y,d1,d2,d3,d4,d5,rfl⟩
      simp only[go_sem,v,Y]
      refine ways (λe=>?_) (λe=>?_)
      ·have K:s<r:=dlt e
       have ζ:=jLa (i:=s) (j:=r) (by omega)
       obtain⟨x,hx⟩:∃x,x=(s+r) / 2:=⟨_,rfl⟩
       rw[<-hx] at ζ
       have w5:wr (((c+m - 1:Nat):Int) - (x:Int))=((c+m - 1 - x:Nat):Int):=yT (by omega) (by omega)
       obtain⟨l,E⟩:∃l,l=P++(A++(D++Q)):=⟨_,rfl⟩
       have β:l.length=P.length+A.length+D.length+Q.length:=by rw[E];simp;omega
       have ra:(l.map evC)[c+m - 1 - x]? =some (evC D[c - x - 1]!):=j9 (by
        rw[E,Vca (by omega) (by omega),show c+m - 1 - x - (P.length+A.length)=c - x - 1 by omega])
       have rb:(l.map evC)[x]? =some (evC A[x - a]!):=j9 (by
        rw[E,yoa (by omega) (by omega),ha])
       have la:=xR (a:=c+m - 1 - x) (b:=l.length) (by omega)
       have lb:=xR (a:=x) (b:=l.length) (by omega)
       rw[<-E] at hi
       simp only[go_sem,v,Y,ζ]
       refine zV rfl [] 0 [(0,0,[]),(1,0,[]),(2,0,[]),(3,0,[]),(4,0,[]),(7,0,[]),(8,0,[]),(5,0,[]),(6,0,[]),(9,0,[]),(10,0,[]),(11,0,[]),(12,0,[]),(13,0,[])] rfl (by decide) (by decide) ?_
       simp only[go_sem,t0,t4,t22,hi,w5,ra,rb,la,lb,zb,Int.toNat_natCast,zh]
       refine zg (c89 _ _ _) ?_
       rintro _ S ⟨rfl,e3⟩
       subst e3
       simp only[go_sem]
       refine ways (λM=>?_) (λM=>?_)
       ·have M:ltE D[c - x - 1]! A[x - a]! =false:=by
         have:(!ltE D[c - x - 1]! A[x - a]!)=true:=M
         simpa using this
        have w6:wr ((x:Int)+1)=((x+1:Nat):Int):=xx (by omega)
        simp only[go_sem,w6,Y]
        refine⟨r - (x+1),by omega,x+1,r,t0,t1,t2,t3,t4,t,I,t22,rfl,rfl,by omega,by omega,by omega,.inr ?_,d5,rfl⟩
        rw[show c - (x+1)=c - x - 1 by omega,show x+1 - a - 1=x - a by omega]
        exact M
       ·have M:ltE D[c - x - 1]! A[x - a]! =true:=by
         have:(!ltE D[c - x - 1]! A[x - a]!)=false:=M
         simpa using this
        simp only[go_sem,v]
        exact⟨x - s,by omega,s,x,t0,t1,t2,t3,t4,t,I,t22,rfl,rfl,by omega,by omega,by omega,d4,.inr M,rfl⟩
      ·have L:r<=s:=xb e
       have:r=s:=by omega
       subst this
       simp only[go_sem]
       exact⟨r,t0,t1,t2,t3,t4,t,I,v,by omega,by omega,d4,d5⟩
     clear t0 t1 t2 t3 t4 t I v Y
     rintro T W ⟨s,rfl,t0,t1,t2,t3,t4,t,I,v,d1,d2,d4,d5⟩
     have φ:=ZWa sA sD (i:=s - a) (j:=c - s) (by omega) (by omega)
      (by rcases d4 with d|d
          ·omega
          ·exact .inr (.inr d))
      (by rcases d5 with d|d
          ·omega
          ·exact .inr (.inr d))
     obtain⟨U,X,f,p,rfl,rfl,hA1,hD1,φ⟩:∃U X f p,A=U++X/\D=f++p/\U.length=s - a/\f.length=c - s/\mergeE A D=mergeE U f++mergeE X p:=
      ⟨_,_,_,_,(qL _ _).symm,(qL _ _).symm,by simp;omega,by simp;omega,φ⟩
     rw[φ]
     simp only[ze] at hb hl hm hn
     have sA1:=(xW.1 sA).1
     have sA2:=(xW.1 sA).2.1
     have sD1:=(xW.1 sD).1
     have sD2:=(xW.1 sD).2.1
     rw[xG]
     refine QK (λT S=>S=W.set id (jg (P++(U++(f++(X++(p++Q))))) st)/\T 0= .tl id st/\T 1=i64 a/\T 3=i64 b/\T 4= .fn (.func 111) [] []/\T 18=i64 c/\T 20=i64 s/\T 24=i64 (c+m - s:Nat)) ?_ ?_
     ·have w7:wr (((c+m:Nat):Int) - (s:Int))=((c+m - s:Nat):Int):=yT (by omega) (by omega)
      have hl1:X.length=0->f.length=0∨f.length≠0:=λ_=>by omega
      have w:X=[]∨f=[]->W=W.set id (jg (P++(U++(f++(X++(p++Q))))) st):=by
       rintro (rfl|rfl)<;>exact(qM (by rw[hi];simp)).symm
      rcases Nat.lt_or_ge s m with K|L
      ·have Z:decide ((s:Int)<(m:Int))=true:=decide_eq_true (by omega)
       rcases Nat.lt_or_ge m (c+m - s) with O|L
       ·have f2:decide ((m:Int)<((c+m - s:Nat):Int))=true:=decide_eq_true (by omega)
        simp only[go_sem,t0,I,v,t2,t4,w7,Z,f2,qD]
        refine zg (xlb _ id st _ _ _ (P++U) X f (p++Q) _ (by rw[hi];simp) (by simp;omega) (by simp;omega) (by simp;omega) (by omega) (by omega) (by simp;omega)) ?_
        rintro _ S ⟨rfl,e3⟩
        subst e3
        simp only[go_sem]
        exact⟨t0,t1,t3,t4,t,v⟩
       ·have f2:decide ((m:Int)<((c+m - s:Nat):Int))=false:=decide_eq_false (by omega)
        simp only[go_sem,t0,I,v,t2,t4,w7,Z,f2,qD]
        exact⟨w (.inr (zC (by omega))),t1,t3,t⟩
      ·have Z:decide ((s:Int)<(m:Int))=false:=decide_eq_false (by omega)
       simp only[go_sem,t0,I,v,t2,t4,w7,Z,qD]
       exact⟨w (.inl (zC (by omega))),t1,t3,t⟩
     clear t0 t1 t2 t3 t4 t I v
     rintro T S ⟨rfl,t0,t1,t3,t4,t,v,V⟩
     refine QK (λT S=>S=W.set id (jg (P++(mergeE U f++(X++(p++Q)))) st)/\T 0= .tl id st/\T 3=i64 b/\T 4= .fn (.func 111) [] []/\T 18=i64 c/\T 24=i64 (c+m - s:Nat)) ?_ ?_
     ·have w:U=[]∨f=[]->P++(U++(f++(X++(p++Q))))=P++(mergeE U f++(X++(p++Q))):=by
       rintro (rfl|rfl)
       ·rw[kv];rfl
       ·rw[xB];rfl
      rcases Nat.lt_or_ge a s with K|L
      ·have Z:decide ((a:Int)<(s:Int))=true:=decide_eq_true (by omega)
       rcases Nat.lt_or_ge s c with O|L
       ·have f2:decide ((s:Int)<(c:Int))=true:=decide_eq_true (by omega)
        simp only[go_sem,t0,t1,t4,t,v,Z,f2,qD]
        refine zg (Vda n _ id st _ _ _ P U f (X++(p++Q)) (hg _) ha (by omega) (by omega) (by omega) (by omega) sA1 sD1 (by simp;omega) (by omega)) ?_
        rintro _ S ⟨rfl,e3⟩
        subst e3
        simp only[go_sem,zU]
        exact⟨t0,t3,t4,t,V⟩
       ·have f2:decide ((s:Int)<(c:Int))=false:=decide_eq_false (by omega)
        simp only[go_sem,t0,t1,t4,t,v,Z,f2,qD]
        exact⟨by rw[w (.inr (zC (by omega)))],t3,V⟩
      ·have Z:decide ((a:Int)<(s:Int))=false:=decide_eq_false (by omega)
       simp only[go_sem,t0,t1,t4,t,v,Z,qD]
       exact⟨by rw[w (.inl (zC (by omega)))],t3,V⟩
     clear t0 t1 t3 t4 t v V
     rintro T S ⟨rfl,t0,t3,t4,t,V⟩
     have ρ:(mergeE U f).length=U.length+f.length:=ZRa _ _
     have w:X=[]∨p=[]->P++(mergeE U f++(X++(p++Q)))=P++(mergeE U f++mergeE X p++Q):=by
      rintro (rfl|rfl)
      ·rw[kv];simp
      ·rw[xB];simp
     rcases Nat.lt_or_ge c (c+m - s) with K|L
     ·have Z:decide ((c:Int)<((c+m - s:Nat):Int))=true:=decide_eq_true (by omega)
      rcases Nat.lt_or_ge (c+m - s) b with O|L
      ·have f2:decide (((c+m - s:Nat):Int)<(b:Int))=true:=decide_eq_true (by omega)
       simp only[go_sem,t0,t3,t4,t,V,Z,f2,qD]
       refine zg (Vda n _ id st _ _ _ (P++mergeE U f) X p Q (by rw[hg];simp) (by simp[ρ];omega) (by simp[ρ];omega) (by simp[ρ];omega) (by omega) (by omega) sA2 sD2 (by simp[ρ];omega) (by omega)) ?_
       rintro _ S ⟨rfl,e3⟩
       subst e3
       simp only[go_sem,zU]
       exact⟨.tup [],by simp only[go_sem],.inl ⟨rfl,by simp⟩⟩
      ·have f2:decide (((c+m - s:Nat):Int)<(b:Int))=false:=decide_eq_false (by omega)
       simp only[go_sem,t0,t3,t4,t,V,Z,f2,qD]
       exact⟨.tup [],by simp only[go_sem],.inl ⟨rfl,by rw[w (.inr (zC (by omega)))];simp⟩⟩
     ·have Z:decide ((c:Int)<((c+m - s:Nat):Int))=false:=decide_eq_false (by omega)
      simp only[go_sem,t0,t3,t4,t,V,Z,qD]
      exact⟨.tup [],by simp only[go_sem],.inl ⟨rfl,by rw[w (.inl (zC (by omega)))];simp⟩⟩
