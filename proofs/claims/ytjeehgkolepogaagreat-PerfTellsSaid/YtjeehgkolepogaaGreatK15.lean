import Derived.Test.YtjeehgkolepogaaGreatK14
set_option linter.all false
namespace Go.Proofs.YtjeehgkolepogaaGreat.Ax
open Go Go.Proofs
section
variable{x z:Ev}{a b a1 a2 b1 b2 l c:List Ev}{i n:Nat}
instance:Inhabited Ev:=⟨⟨0,0,0,0,0,0,0,0,0,0,0⟩⟩
def ltE(a b:Ev):Bool:=decide (kja a b<0)
def xw(a b:Ev):ltE a b=true↔(a.at_<b.at_∨(a.at_=b.at_/\a.id<b.id)):=by
 simp only[ltE,decide_eq_true_eq];unfold kja KU orI orI orI;by_cases c:a.at_<b.at_
 ·rw[if_pos c];simp[c]
 ·rw[if_neg c];by_cases e:a.at_>b.at_
  ·rw[if_pos e];simp;omega
  ·rw[if_neg e];by_cases d:a.id<b.id
   ·rw[if_pos d];simp;omega
   ·rw[if_neg d];split<;>simp<;>omega
def xh(a b:Ev):ltE a b=false↔¬ (a.at_<b.at_∨(a.at_=b.at_/\a.id<b.id)):=by
 rw[<-xw,Bool.not_eq_true]
def mergeE:List Ev->List Ev->List Ev
 | [],b=>b
 | a,[]=>a
 | x::a,y::b=>if ltE y x then y::mergeE (x::a) b else x::mergeE a (y::b)
termination_by a b=>a.length+b.length
def j9(b:List Ev):mergeE [] b=b:=by rw[mergeE]
def jP(a:List Ev):mergeE a []=a:=by cases a<;>simp[mergeE]
def q8(x y:Ev)(a b:List Ev):mergeE (x::a) (y::b)=if ltE y x then y::mergeE (x::a) b else x::mergeE a (y::b):=by rw[mergeE]
def xD(x:Ev):List Ev->List Ev
 | []=>[x]
 | y::b=>if ltE y x then y::xD x b else x::y::b
def zS:List Ev->List Ev
 | []=>[]
 | x::l=>xD x (zS l)
def VN(x:Ev):∀l,(xD x l).length=l.length+1
 | []=>rfl
 | y::l=>by
   simp only[xD];split
   ·simp[VN x l]
   ·simp
def jl:∀l,(zS l).length=l.length
 | []=>rfl
 | x::l=>by simp[zS,VN,jl l]
def XW(x:Ev):∀b,mergeE [x] b=xD x b
 | []=>by simp[mergeE,xD]
 | y::b=>by
   rw[q8,xD,j9];split
   ·rw[XW x b]
   ·rfl
def jd(x y:Ev)(b:List Ev):xD x (y::b)=if ltE y x then y::xD x b else x::y::b:=rfl
def yo(x:Ev):∀(a b:List Ev),mergeE (xD x a) b=xD x (mergeE a b)
 | [],b=>by rw[j9,xD,XW]
 | s::a,[]=>by rw[jP,jP]
 | s::a,t::b=>by
   rw[jd];by_cases d:ltE s x
   ·rw[if_pos d,q8,q8];by_cases c:ltE t s
    ·rw[if_pos c,if_pos c,jd,if_pos (by rw[xw] at *; omega)];have:=yo x (s::a) b;rw[jd,if_pos d] at this;rw[this]
    ·rw[if_neg c,if_neg c,jd,if_pos d,yo x a (t::b)]
   ·rw[if_neg d,q8];by_cases c:ltE t x
    ·have e:ltE t s=true:=by
      rw[Bool.not_eq_true,xh] at d;rw[xw] at *; omega
     rw[if_pos c,q8,if_pos e,jd,if_pos c];have:=yo x (s::a) b;rw[jd,if_neg d] at this;rw[this]
    ·rw[if_neg c,q8];split
     ·rw[jd,if_neg c]
     ·rw[jd,if_neg d]
termination_by a b=>a.length+b.length
def yq(b:List Ev):∀a,mergeE (zS a) (zS b)=zS (a++b)
 | []=>by rw[zS,j9,List.nil_append]
 | x::a=>by rw[zS,yo,yq b a,List.cons_append,zS]
def Srt:List Ev->Prop
 | []=>True
 | x::l=>(∀y∈l,ltE y x=false)/\Srt l
def JS:∀ {l:List Ev},z∈xD x l↔z=x∨z∈l
 | []=>by simp[xD]
 | y::l=>by
   rw[jd];split
   ·simp only[zK,JS (l:=l)];constructor<;>(rintro (h|h|h)<;>simp[h])
   ·simp
def VO(x:Ev):∀ {l:List Ev},Srt l->Srt (xD x l)
 | [],_=>⟨λy h=>(by cases h),trivial⟩
 | y::l,⟨b,c⟩=>by
   rw[jd];split
   ·rename_i h;refine⟨λz a=>?_,VO x c⟩;rcases JS.1 a with rfl|a
    ·rw[xh];rw[xw] at h;omega
    ·exact b z a
   ·rename_i h;refine⟨λz a=>?_,b,c⟩;rw[Bool.not_eq_true] at h;rcases zK.1 a with rfl|a
    ·exact h
    ·have:=b z a;rw[xh] at *; omega
def xB:∀l,Srt (zS l)
 | []=>trivial
 | x::l=>VO x (xB l)
def XX:∀ {l:List Ev},z∈zS l↔z∈l
 | []=>by simp[zS]
 | x::l=>by rw[zS,JS,XX,zK]
def jN:Srt (a++b)↔Srt a/\Srt b/\∀x∈a,∀y∈b,ltE y x=false:=by
 induction a with
 | nil=>simp[Srt]
 | cons x a i=>
   rw[List.cons_append,Srt,i,Srt];constructor
   ·rintro ⟨e,h,g,f⟩;refine⟨⟨λy c=>e y (List.mem_append_left _ c),h⟩,g,λz d y c=>?_⟩;rcases zK.1 d with rfl|d
    ·exact e y (List.mem_append_right _ c)
    ·exact f z d y c
   ·rintro ⟨⟨e,h⟩,g,f⟩;refine⟨λy c=>?_,h,g,λz d y c=>f z (List.mem_cons_of_mem _ d) y c⟩;rcases zV.1 c with c|c
    ·exact e y c
    ·exact f x List.mem_cons_self y c
def z6a(a b:List Ev):(mergeE a b).length=a.length+b.length:=by
 induction a,b using mergeE.induct with
 | case1 b=>simp[mergeE]
 | case2 a h=>rw[jP];simp
 | case3 x a y b h c=>rw[q8,if_pos h];simp only[List.length_cons] at *; omega
 | case4 x a y b h c=>rw[q8,if_neg h];simp only[List.length_cons] at *; omega
def JU:∀(a b c:List Ev),(∀x∈a,∀y∈b,ltE y x=false)->mergeE a b=a++b
 | [],b,_,_=>by rw[j9,List.nil_append]
 | x::a,[],_,_=>by rw[jP,zJ]
 | x::a,y::b,c,h=>by
   rw[q8,if_neg (by rw[h x List.mem_cons_self y List.mem_cons_self];simp),JU a (y::b) c λz d=>h z (List.mem_cons_of_mem _ d),List.cons_append]
def yT(f:∀x∈a1,∀y∈b2,ltE y x=false)(e:∀x∈a2,∀y∈b1,ltE y x=true):mergeE (a1++a2) (b1++b2)=mergeE a1 b1++mergeE a2 b2:=by
 induction a1,b1 using mergeE.induct with
 | case1 b=>
   rw[j9,List.nil_append]
   induction b with
   | nil=>rfl
   | cons y b d=>
     cases a2 with
     | nil=>rw[j9,j9]
     | cons x a=>
       rw[List.cons_append,q8,if_pos (e x List.mem_cons_self y List.mem_cons_self),d (λz c w g=>e z c w (List.mem_cons_of_mem _ g)),List.cons_append]
 | case2 a h=>
   rw[jP,List.nil_append];clear h e
   induction a with
   | nil=>rfl
   | cons x a d=>
     cases b2 with
     | nil=>rw[jP,jP]
     | cons y b=>
       rw[List.cons_append,q8,if_neg (by rw[f x List.mem_cons_self y List.mem_cons_self];simp),d (λz c=>f z (List.mem_cons_of_mem _ c)),List.cons_append]
 | case3 x a y b h d=>
   rw[List.cons_append,List.cons_append,q8,q8,if_pos h,if_pos h, <-List.cons_append,d f (λz c w g=>e z c w (List.mem_cons_of_mem _ g)),List.cons_append]
 | case4 x a y b h d=>
   rw[List.cons_append,List.cons_append,q8,q8,if_neg h,if_neg h, <-List.cons_append,d (λz c=>f z (List.mem_cons_of_mem _ c)) e,List.cons_append]
def JV(a:∀y∈a1,ltE x y=false)(b:∀y∈a2,ltE x y=true):mergeE (a1++a2) [x]=a1++x::a2:=by
 have:=yT (a1:=a1) (a2:=a2) (b1:=[x]) (b2:=[]) zh (by simpa using b);rw[zJ] at this;rw[this,jP,JU a1 [x] [] (by simpa using a)];simp
def VP(a:∀y∈b1,ltE y x=true)(b:∀y∈b2,ltE y x=false):mergeE [x] (b1++b2)=b1++x::b2:=by
 have:=yT (a1:=[]) (a2:=[x]) (b1:=b1) (b2:=b2) zh (by simpa using a);rw[List.nil_append] at this;rw[this,j9,JU [x] b2 [] (by simpa using b)];simp
def z7a:zS (l++[x])=mergeE (zS l) [x]:=by rw[<-yq,show zS [x]=[x] from rfl]
def VQ(h:Srt (a++[x]))(c:ltE z x=false):∀y∈a++[x],ltE z y=false:=by
 intro y d;rcases zV.1 d with b|b
 ·have e:=(jN.1 h).2.2 y b x zh;rw[xh] at *; omega
 ·rw[qA.1 b];exact c
def z8a(h:Srt (a++[x]))(c:ltE x z=true):∀y∈a++[x],ltE y z=true:=by
 intro y d;rcases zV.1 d with b|b
 ·have e:=(jN.1 h).2.2 y b x zh;rw[xh] at *; rw[xw] at *; omega
 ·rw[qA.1 b];exact c
def VR(h:Srt (x::a))(b:ltE x z=false):∀y∈x::a,ltE y z=false:=by
 intro y d;rcases zK.1 d with rfl|c
 ·exact b
 ·have e:=h.1 y c;rw[xh] at *; omega
def z9a(h:Srt (x::a))(c:ltE z x=true):∀y∈x::a,ltE z y=true:=by
 intro y e;rcases zK.1 e with rfl|d
 ·exact c
 ·have b:=h.1 y d;rw[xh] at b;rw[xw] at *; omega
def kka{x y:Ev}{i j:Nat}(hi:i=a.length)(d:j=a.length+1+b.length):((a++x::(b++y::c)).set i y).set j x=a++y::(b++x::c):=by
 subst hi d;rw[qd _ _ (zB _),Nat.sub_self,List.set_cons_zero,qd _ _ zb,show a.length+1+b.length - a.length=b.length+1 by omega,List.set_cons_succ,qd _ _ (zB _),Nat.sub_self,List.set_cons_zero]
def yf(hi:i=a.length):(a++x::c)[i]? =some x:=by
 subst hi;rw[zM (zB _),Nat.sub_self];rfl
def blkE(n:Nat)(l:List Ev):List Ev:=if h:l.length<=n∨n=0 then zS l else zS (l.take n)++blkE n (l.drop n)
termination_by l.length
decreasing_by simp only[List.length_drop];omega
def jJa(n:Nat)(l:List Ev):(blkE n l).length=l.length:=by
 induction l using blkE.induct n with
 | case1 l h=>rw[blkE,dif_pos h,jl]
 | case2 l h a=>rw[blkE,dif_neg h,zp,jl,a];simp only[zT,List.length_drop];omega
def wJ(h:l.length<=n):blkE n l=zS l:=by rw[blkE,dif_pos (.inl h)]
def yU(b:a.length=n)(c:0<n):blkE n (a++l)=zS a++blkE n l:=by
 cases l with
 | nil=>rw[zJ,wJ zb,wJ zh,zS,zJ]
 | cons x l=>
   rw[blkE,dif_neg (by simp only[zp,List.length_cons];omega)];subst b;rw[List.take_left,List.drop_left]
end
set_option maxRecDepth 100000
section
variable{l:List Ev}{i j a b:Nat}{x y:Ev}
attribute [go_sem] xUa xVa ty3
abbrev qJ(l:List Ev)(st:Nat):Ob:= .row 55 11 (l.map evC) st
def jz(h:l[i]? =some x):(l.map evC)[i]? =some (evC x):=by
 rw[zw,h];rfl
def JW:∀(q b:List AV),q.length=b.length->lay q 0 b=some b
 | [],[],_=>rfl
 | a::q,n::b,h=>by
   simp only[lay];rw[JW q b (by simpa using h)];rfl
 | [],_::_,h=>by cases h
 | _::_,[],h=>by cases h
def Ji(e:Ev)(c:j<l.length):∃q,((l.map evC).set i (evC e))[j]? =some q/\∀a:List AV,a.length=11->lay q 0 a=some a:=by
 by_cases b:i=j
 ·subst b;exact⟨evC e,zr (by simpa using c),λa h=>JW _ _ h.symm⟩
 ·rw[zf b];exact⟨_,jz (zg c),λa h=>JW _ _ h.symm⟩
def Qr{a b c:List Ev}(e:l=a++x::(b++y::c))(hi:i=a.length)(d:j=a.length+1+b.length):((l.map evC).set i (evC y)).set j (evC x)=(a++y::(b++x::c)).map evC:=by
 rw[<-kka hi d,e,List.map_set,List.map_set]
def JX{a b c:List Ev}(e:l=a++x::(b++y::c))(hi:i=a.length)(d:j=a.length+1+b.length):((l.map evC).set j (evC x)).set i (evC y)=(a++y::(b++x::c)).map evC:=by
 rw[List.set_comm _ _ zb,Qr e hi d]
def wP(h:a+b<4611686018427387904):wr ((a:Int)+(b:Int))=((a+b:Nat):Int):=by rw[qb qg];rfl
def vO(h:b<=a)(c:a<4611686018427387904):wr ((a:Int) - (b:Int))=((a - b:Nat):Int):=by rw[qb qg];omega
def Jj(h:1<=a)(c:a<4611686018427387904):wr ((a:Int) - 1)=((a - 1:Nat):Int):=vO (b:=1) h c
def qh{k m:Nat}(h:k<9223372036854775807)(a:m=k+1):AV.v (.int .i64 (IntKind.wrap .i64 ((k:Int)+1)))=i64 (m:Int):=by
 rw[show IntKind.wrap .i64 ((k:Int)+1)=((k+1:Nat):Int) from jM h,a]
def dlt(e:decide ((a:Int)<(b:Int))=true):a<b:=by simpa using e
def jO(e:decide ((a:Int)<(b:Int))=false):b<=a:=by simpa using e
def YY{l U V:List Ev}(h:zS l=U++V)(b:∀y∈V,ltE x y=true)(a:∀y∈U,ltE x y=false):zS (l++[x])=U++x::V:=by
 rw[z7a,h,JV a b]
def c137(h:List Ob)(id st a b n:Nat)(P X M Y Q:List Ev)(f:AV)(hi:h[id]? =some (qJ (P++(X++(M++(Y++Q)))) st))(W:a=P.length)(U:b=P.length+X.length+M.length)(v:X.length=n)(z:Y.length=n)(G:P.length+X.length+M.length+Y.length<1099511627776):
    ACalls Tryz.prog 176 [.tl id st,i64 a,i64 b,i64 n,f] h λr h'=>r= .tup []/\h'=h.set id (qJ (P++(Y++(M++(X++Q)))) st):=by
 refine enterSX Tryz.f176 (λB=>?_) (⟨_,_,⟨rfl,rfl⟩,qX hi rfl⟩)
 refine wp_loop_a ze (λm T h'=>∃c p d u,X=c++p/\Y=d++u/\c.length=d.length/\h'=h.set id (qJ (P++(d++(p++(M++(c++(u++Q)))))) st)/\T 0= .tl id st/\T 1=i64 a/\T 2=i64 b/\T 3=i64 n/\T 10=i64 c.length/\m=p.length) n
  ⟨[],X,[],Y,rfl,rfl,rfl,by rw[List.nil_append,List.nil_append,jA hi],zo,zo,zo,zo,by(simp only[go_sem]<;>rfl),v.symm⟩ ?_
 rintro m T h' ⟨c,p,d,u,rfl,rfl,C,rfl,t0,t1,t2,t3,t,rfl⟩;simp only[go_sem,t,t3];refine ways (λe=>?_) (λe=>?_)
 ·have A:c.length<n:=by simpa using e
  cases p with
  | nil=>simp at v;omega
  | cons x k=>
  cases u with
  | nil=>simp at z;omega
  | cons y s=>
  simp only[zp,List.length_cons] at v z U G;have I:∀o,(h.set id o)[id]? =some o:=λo=>zt hi;obtain⟨l,w⟩:∃l,l=P++(d++(x::k++(M++(c++(y::s++Q))))):=⟨_,rfl⟩;have g:l=(P++d)++x::((k++(M++c))++y::(s++Q)):=by rw[w];simp
  have E:l.length=P.length+d.length+1+k.length+M.length+c.length+1+s.length+Q.length:=by rw[g];simp;omega
  have D:a+c.length=(P++d).length:=zE;have F:b+c.length=(P++d).length+1+(k++(M++c)).length:=zE;have O:(l.map evC)[a+c.length]? =some (evC x):=jz (by rw[g];exact yf D)
  have V:(l.map evC)[b+c.length]? =some (evC y):=jz (by
   rw[g,show(P++d)++x::((k++(M++c))++y::(s++Q))=((P++d)++x::(k++(M++c)))++y::(s++Q) by simp];exact yf (by rw[F];simp;omega))
  have N:((a+c.length:Nat):Int)<((l.length:Nat):Int):=zb;have S:((b+c.length:Nat):Int)<((l.length:Nat):Int):=zb;have L:=wP (a:=a) (b:=c.length) zb;have H:=wP (a:=b) (b:=c.length) zb;obtain⟨q,R,J⟩:=Ji (l:=l) (i:=a+c.length) (j:=b+c.length) y zb;have K:=Qr g D F;rw[<-w];refine zz ?_;refine zZ [] 0 (oF [0,1,2,3,4,5,6,7,8,9,10,11,14,15,16,17,12,13,18,19,20,21,22,23] ([])) ?_;simp only[go_sem,t1,t2,t,t0,I,O,V,R,J,N,S,L,H,zc,Int.toNat_natCast,zd,qB];refine⟨k.length,zh,c++[x],k,d++[y],s,zh,zh,by simp[C],?_,t3,?_,rfl⟩
  ·rw[K];exact congrArg (λl=>h.set id (qJ l st)) zh
  ·exact qh zb zh
 ·have A:¬ c.length<n:=by simpa using e
  have:p=[]:=zy (by simp at v;omega);subst this;have:u=[]:=zy (by simp at z v;omega);subst this;refine zz ?_;exact⟨.tup [],zo,.inl ⟨rfl,zh⟩⟩
def c129(h:List Ob)(id st a m b:Nat)(P A D Q:List Ev)(f:AV)(hi:h[id]? =some (qJ (P++(A++(D++Q))) st))(X:a=P.length)(O:m=P.length+A.length)(Y:b=P.length+A.length+D.length)(W:0<A.length)(hB:0<D.length)(I:P.length+A.length+D.length<1099511627776):
    ACalls Tryz.prog 168 [.tl id st,i64 a,i64 m,i64 b,f] h λr h'=>r= .tup []/\h'=h.set id (qJ (P++(D++(A++Q))) st):=by
 have M:wr ((m:Int) - (a:Int))=(A.length:Int):=by rw[vO zb zb];omega
 have H:wr ((b:Int) - (m:Int))=(D.length:Int):=by rw[vO zb zb];omega
 refine enterQX Tryz.f168 (λB=>?_) (⟨_,_,⟨rfl,rfl⟩,qX hi rfl⟩);simp only[go_sem,M,H]
 refine wp_loop_a ze (λn T h'=>∃L c d R,P++(D++(A++Q))=L++(d++(c++R))/\L.length+c.length=m/\0<c.length/\0<d.length/\L.length+c.length+d.length<1099511627776/\h'=h.set id (qJ (L++(c++(d++R))) st)/\T 0= .tl id st/\T 2=i64 m/\T 4=f/\T 10=i64 c.length/\T 11=i64 d.length/\n=c.length+d.length) (A.length+D.length)
  ⟨P,A,D,Q,rfl,O.symm,W,hB,I,by rw[jA hi],zo,zo,zo,zo,zo,rfl⟩ ?_
 rintro n T h' ⟨L,c,d,R,heq,J,K,V,U,rfl,t0,t2,t4,i,g,rfl⟩;have z:∀o,(h.set id o)[id]? =some o:=λo=>zt hi;have F:wr ((m:Int) - (c.length:Int))=((m - c.length:Nat):Int):=vO zb zb;simp only[go_sem,i,g];refine ways (λe=>?_) (λe=>?_)
 ·simp only[go_sem,i,g];have w:c.length≠d.length:=λk=>by simp[k] at e
  refine ways (λC=>?_) (λC=>?_)
  ·have E:d.length<c.length:=(by simpa using C);obtain⟨t,s,j,x⟩:∃t s,c=t++s/\t.length=d.length:=⟨c.take d.length,c.drop d.length,(qc _ _).symm,zE⟩
   have G:wr ((c.length:Int) - (d.length:Int))=((s.length:Nat):Int):=by
    rw[vO zb zb,j,zp];omega
   have u:c.length=t.length+s.length:=(by rw[j,zp]);simp only[go_sem,t0,t2,t4,i,g,F];refine zl (c137 _ id st _ _ _ L t s d R f (by rw[z,j];simp) zb zb x rfl zb) ?_;rintro _ S ⟨rfl,y⟩;subst y;simp only[go_sem,t0,t2,t4,i,g,G,qB];refine⟨s.length+t.length,zb,L++d,s,t,R,by rw[heq,j];simp,zE,zb,zb,zE,zh,rfl,by rw[x],rfl⟩
  ·have E:c.length<d.length:=by
    have:¬ d.length<c.length:=(by simpa using C);omega
   obtain⟨l,q,p,v⟩:∃l q,d=l++q/\q.length=c.length:=⟨d.take (d.length - c.length),d.drop (d.length - c.length),(qc _ _).symm,zE⟩;have u:d.length=l.length+q.length:=by rw[p,zp]
   have G:wr ((d.length:Int) - (c.length:Int))=((l.length:Nat):Int):=by
    rw[vO zb zb];omega
   have N:wr (wr ((m:Int)+(d.length:Int)) - (c.length:Int))=((m+d.length - c.length:Nat):Int):=by
    rw[wP zb,vO zb zb]
   simp only[go_sem,t0,t2,t4,i,g,F,N];refine zl (c137 _ id st _ _ _ L c l q R f (by rw[z,p];simp) zb zb rfl v zb) ?_;rintro _ S ⟨rfl,y⟩;subst y;simp only[go_sem,t0,t2,t4,i,g,G,qB];refine⟨q.length+l.length,zb,L,q,l,c++R,by rw[heq,p];simp,zb,zb,zb,zb,zh,by rw[v],rfl,rfl⟩
 ·have w:c.length=d.length:=by
   have:(c.length:Int)=d.length:=(by simpa using e);omega
  simp only[go_sem,t0,t2,t4,i,g,F];refine qx (c137 _ id st _ _ _ L c [] d R f (by rw[z];simp) zb (by simp only[List.length_nil];omega) rfl w.symm (by simp only[List.length_nil];omega)) ?_;simp only[go_sem,qB];exact⟨.tup [],zo,.inl ⟨rfl,by rw[heq]⟩⟩
def c116(h:List Ob)(id st a b:Nat)(P S Q:List Ev)(hi:h[id]? =some (qJ (P++(S++Q)) st))(ha:a=P.length)(F:b=P.length+S.length)(hl:(P++(S++Q)).length<1099511627776):
    ACalls Tryz.prog 149 [.tl id st,i64 a,i64 b,.fn (.func 95) [] []] h λr h'=>r= .tup []/\h'=h.set id (qJ (P++(zS S++Q)) st):=by
 have M:∀o,(h.set id o)[id]? =some o:=λo=>zt hi;simp only[zp] at hl;have w1:wr ((a:Int)+1)=((a+1:Nat):Int):=jM zb;refine enterQX Tryz.f149 (λB=>?_) (⟨_,_,⟨rfl,rfl⟩,qX hi rfl⟩);simp only[go_sem,w1];refine wp_loop_a ze (λn T h'=>∃d A,S=d++A/\h'=h.set id (qJ (P++(zS d++(A++Q))) st)/\T 0= .tl id st/\T 1=i64 a/\T 2=i64 b/\T 3= .fn (.func 95) [] []/\T 8=i64 (a+d.length+(if S=[] then 1 else 0):Nat)/\n=A.length) (S.length - 1) ?_ ?_
 ·cases S with
  | nil=>exact⟨[],[],rfl,by rw[zS,List.nil_append,jA hi],zo,zo,zo,zo,zo,rfl⟩
  | cons x S=>exact⟨[x],S,rfl,(jA hi).symm,zo,zo,zo,zo,zo,rfl⟩
 rintro n T h' ⟨d,A,t,rfl,t0,t1,t2,t3,s,rfl⟩;simp only[go_sem,s,t2];refine ways (λe=>?_) (λe=>?_)
 ·have v:a+d.length+(if S=[] then 1 else 0)<b:=dlt e;have c:S≠[]:=λk=>by rw[k] at v F;simp at v F;omega
  rw[if_neg c] at s v;cases A with
  | nil=>rw[t] at F;simp at F;omega
  | cons x f=>
  have γ:S.length=d.length+1+f.length:=by rw[t];simp;omega
  have C:=jl d;simp only[go_sem,s]
  refine wp_loop_a ze (λn T h'=>∃U V,zS d=U++V/\(∀y∈V,ltE x y=true)/\h'=h.set id (qJ (P++(U++(x::(V++(f++Q))))) st)/\T 0= .tl id st/\T 1=i64 a/\T 2=i64 b/\T 3= .fn (.func 95) [] []/\T 8=i64 (a+d.length:Nat)/\T 9=i64 (a+U.length:Nat)/\n=U.length) (zS d).length
   ⟨zS d,[],zh,zh,zh,by simp only[go_sem,t0],by simp only[go_sem,t1],by simp only[go_sem,t2],by simp only[go_sem,t3],by simp only[go_sem,s,c],by simp only[go_sem,s,c,C],rfl⟩ ?_
  rintro n T h' ⟨U,V,g,H,rfl,t0,t1,t2,t3,s,t9,rfl⟩;have E:d.length=U.length+V.length:=by rw[<-C,g,zp]
  have D:=qh (k:=a+d.length) (m:=a+(d++[x]).length) zb zE;rcases List.eq_nil_or_concat U with rfl|⟨U,u,rfl⟩
  ·refine zz ?_;refine zZ [] 0 (oF [0,1,2,3,4,5,6,9,10,11,7,8,12,13,14,15,16] ([])) ?_;have t9:T 9=i64 (a:Int):=t9;simp only[go_sem,t9,t1,s,gt_iff_lt,Int.lt_irrefl,decide_false,beq_self_eq_true,Bool.false_eq_true,Bool.true_eq_false];refine⟨f.length,zh,d++[x],f,by rw[t];simp,?_,t0,t2,t3,?_,rfl⟩
   ·rw[YY g H zh];rfl
   ·rw[if_neg c];exact D
  ·rw[List.concat_eq_append] at*
   simp only[zp,List.length_cons,List.length_nil] at E t9;obtain⟨l,z⟩:∃l,l=P++(U++[u]++(x::(V++(f++Q)))):=⟨_,rfl⟩;have p:l=(P++U)++u::([]++x::(V++(f++Q))):=(by rw[z];simp);have O:l.length=P.length+U.length+2+V.length+f.length+Q.length:=(by rw[p];simp;omega);have N:a+U.length=(P++U).length:=zE;have X:a+(U.length+1)=(P++U).length+1+([]:List Ev).length:=zE;have W:(l.map evC)[a+U.length]? =some (evC u):=jz (by rw[p];exact yf N)
   have Z:(l.map evC)[a+(U.length+1)]? =some (evC x):=jz (by
    rw[p,show(P++U)++u::([]++x::(V++(f++Q)))=((P++U)++[u])++x::(V++(f++Q)) by simp];exact yf (by rw[X];simp;omega))
   have R:((a+U.length:Nat):Int)<((l.length:Nat):Int):=zb;have Y:((a+(U.length+1):Nat):Int)<((l.length:Nat):Int):=zb;have f1:((a:Nat):Int)<((a+(U.length+1):Nat):Int):=zb
   have L:wr (((a+(U.length+1):Nat):Int) - 1)=((a+U.length:Nat):Int):=by
    rw[Jj zb zb];omega
   obtain⟨q,q1,q2⟩:=Ji (l:=l) (i:=a+(U.length+1)) (j:=a+U.length) u zb;have sw:=JX p N X;rw[<-z];refine zz ?_;refine zZ [] 0 (oF [0,1,2,3,4,5,6,9,10,11,7,8,12,13,14,15,16] ([])) ?_;simp only[go_sem,t9,t1,t0,t3,gt_iff_lt,f1,decide_true,M,W,Z,R,Y,L,zc,Int.toNat_natCast,zd,beq_self_eq_true,Bool.false_eq_true,Bool.true_eq_false];refine qI (c89 x u _) ?_;refine ways (λw=>?_) (λw=>?_)
   ·have w:ltE x u=true:=w;refine zz ?_;refine zZ [] 0 (oF [0,1,2,3,4,5,6,7,10,11,8,9,12,13,14,15,16,17] ([])) ?_;simp only[go_sem,t9,t1,t0,t3,M,W,Z,q1,q2,R,Y,L,zc,Int.toNat_natCast,zd,qB];refine⟨U.length,zh,U,u::V,by rw[g];simp,λy G=>?_,?_,t2,s,rfl,rfl⟩
    ·rcases zK.1 G with rfl|G
     ·exact w
     ·exact H y G
    ·rw[sw];exact congrArg (λl=>h.set id (qJ l st)) zh
   ·have w:ltE x u=false:=w;simp only[go_sem,s];have I:Srt ((U++[u])++V):=(by rw[<-g];exact xB _);refine⟨f.length,zh,d++[x],f,by rw[t];simp,?_,t0,t1,t2,t3,?_,rfl⟩
    ·rw[YY g H (VQ (jN.1 I).1 w),z];exact congrArg (λl=>h.set id (qJ l st)) zh
    ·rw[if_neg c];exact D
 ·have K:=jO e
  have J:A=[]:=by
   apply zy;rw[t,zp] at F;by_cases c:S=[]
   ·rw[t] at c;simp at c;simp[c]
   ·rw[if_neg c] at K;omega
  subst J;rw[zJ] at t;subst t;refine zz ?_;exact⟨.tup [],zo,.inl ⟨rfl,zh⟩⟩
end
