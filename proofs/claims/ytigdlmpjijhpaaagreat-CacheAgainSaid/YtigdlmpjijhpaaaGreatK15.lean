import Derived.Test.YtigdlmpjijhpaaaGreatKA
import Derived.Test.YtigdlmpjijhpaaaGreatK13
set_option linter.all false
namespace Go.Proofs.YtigdlmpjijhpaaaGreat.Ax
open Go Go.Proofs
instance:Inhabited Ev:=⟨⟨0,0,0,0,0,0,0,0,0,0,0⟩⟩
def ltE(a b:Ev):Bool:=decide (VOa a b<0)
theorem wC(a b:Ev):ltE a b=true↔(a.at_<b.at_∨(a.at_=b.at_/\a.id<b.id)):=by
 simp only[ltE,decide_eq_true_eq]
 unfold VOa Kh orI orI orI
 by_cases c:a.at_<b.at_
 ·rw[if_pos c];simp[c]
 ·rw[if_neg c]
  by_cases d:a.at_>b.at_
  ·rw[if_pos d];simp;omega
  ·rw[if_neg d]
   by_cases e:a.id<b.id
   ·rw[if_pos e];simp;omega
   ·rw[if_neg e]
    split<;>simp<;>omega
theorem kR(a b:Ev):ltE a b=false↔¬ (a.at_<b.at_∨(a.at_=b.at_/\a.id<b.id)):=by
 rw[<-wC,Bool.not_eq_true]
def mergeE:List Ev->List Ev->List Ev
 | [],b=>b
 | a,[]=>a
 | x::a,y::b=>if ltE y x then y::mergeE (x::a) b else x::mergeE a (y::b)
termination_by a b=>a.length+b.length
theorem kH(b:List Ev):mergeE [] b=b:=by rw[mergeE]
theorem xJ(a:List Ev):mergeE a []=a:=by cases a<;>simp[mergeE]
theorem jC(x y:Ev)(a b:List Ev):mergeE (x::a) (y::b)=if ltE y x then y::mergeE (x::a) b else x::mergeE a (y::b):=by rw[mergeE]
def vH(x:Ev):List Ev->List Ev
 | []=>[x]
 | y::b=>if ltE y x then y::vH x b else x::y::b
def qv:List Ev->List Ev
 | []=>[]
 | x::l=>vH x (qv l)
theorem x6a(x:Ev):∀l,(vH x l).length=l.length+1
 | []=>rfl
 | y::l=>by
   simp only[vH]
   split
   ·simp[x6a x l]
   ·simp
theorem xl:∀l,(qv l).length=l.length
 | []=>rfl
 | x::l=>by simp[qv,x6a,xl l]
theorem qHa(x:Ev):∀b,mergeE [x] b=vH x b
 | []=>by simp[mergeE,vH]
 | y::b=>by
   rw[jC,vH,kH]
   split
   ·rw[qHa x b]
   ·rfl
theorem jA(x y:Ev)(b:List Ev):vH x (y::b)=if ltE y x then y::vH x b else x::y::b:=rfl
theorem Q5(x:Ev):∀(a b:List Ev),mergeE (vH x a) b=vH x (mergeE a b)
 | [],b=>by rw[kH,vH,qHa]
 | s::a,[]=>by rw[xJ,xJ]
 | s::a,t::b=>by
   rw[jA]
   by_cases d:ltE s x
   ·rw[if_pos d,jC,jC]
    by_cases c:ltE t s
    ·rw[if_pos c,if_pos c,jA,if_pos (by rw[wC] at *; omega)]
     have:=Q5 x (s::a) b
     rw[jA,if_pos d] at this
     rw[this]
    ·rw[if_neg c,if_neg c,jA,if_pos d,Q5 x a (t::b)]
   ·rw[if_neg d,jC]
    by_cases c:ltE t x
    ·have e:ltE t s=true:=by
      rw[Bool.not_eq_true,kR] at d
      rw[wC] at *; omega
     rw[if_pos c,jC,if_pos e,jA,if_pos c]
     have:=Q5 x (s::a) b
     rw[jA,if_neg d] at this
     rw[this]
    ·rw[if_neg c,jC]
     split
     ·rw[jA,if_neg c]
     ·rw[jA,if_neg d]
termination_by a b=>a.length+b.length
theorem Q6(b:List Ev):∀a,mergeE (qv a) (qv b)=qv (a++b)
 | []=>by rw[qv,kH,List.nil_append]
 | x::a=>by rw[qv,Q5,Q6 b a,List.cons_append,qv]
def Srt:List Ev->Prop
 | []=>True
 | x::l=>(∀y∈l,ltE y x=false)/\Srt l
theorem K3{x z:Ev}:∀ {l:List Ev},z∈vH x l↔z=x∨z∈l
 | []=>by simp[vH]
 | y::l=>by
   rw[jA]
   split
   ·simp only[zx,K3 (l:=l)]
    constructor<;>(rintro (h|h|h)<;>simp[h])
   ·simp
theorem YQ(x:Ev):∀ {l:List Ev},Srt l->Srt (vH x l)
 | [],_=>⟨λy h=>(by cases h),trivial⟩
 | y::l,⟨b,c⟩=>by
   rw[jA]
   split
   ·rename_i h
    refine⟨λz a=>?_,YQ x c⟩
    rcases K3.1 a with rfl|a
    ·rw[kR];rw[wC] at h;omega
    ·exact b z a
   ·rename_i h
    refine⟨λz a=>?_,b,c⟩
    rw[Bool.not_eq_true] at h
    rcases zx.1 a with rfl|a
    ·exact h
    ·have:=b z a
     rw[kR] at *; omega
theorem ko:∀l,Srt (qv l)
 | []=>trivial
 | x::l=>YQ x (ko l)
theorem Xz{z:Ev}:∀ {l:List Ev},z∈qv l↔z∈l
 | []=>by simp[qv]
 | x::l=>by rw[qv,K3,Xz,zx]
theorem xn{a b:List Ev}:Srt (a++b)↔Srt a/\Srt b/\∀x∈a,∀y∈b,ltE y x=false:=by
 induction a with
 | nil=>simp[Srt]
 | cons x a i=>
   rw[List.cons_append,Srt,i,Srt]
   constructor
   ·rintro ⟨f,h,g,e⟩
    refine⟨⟨λy c=>f y (List.mem_append_left _ c),h⟩,g,λz d y c=>?_⟩
    rcases zx.1 d with rfl|d
    ·exact f y (List.mem_append_right _ c)
    ·exact e z d y c
   ·rintro ⟨⟨f,h⟩,g,e⟩
    refine⟨λy c=>?_,h,g,λz d y c=>e z (List.mem_cons_of_mem _ d) y c⟩
    rcases zK.1 c with c|c
    ·exact f y c
    ·exact e x List.mem_cons_self y c
theorem Qaa(a b:List Ev):(mergeE a b).length=a.length+b.length:=by
 induction a,b using mergeE.induct with
 | case1 b=>simp[mergeE]
 | case2 a h=>rw[xJ];simp
 | case3 x a y b h c=>rw[jC,if_pos h];simp only[List.length_cons] at *; omega
 | case4 x a y b h c=>rw[jC,if_neg h];simp only[List.length_cons] at *; omega
theorem YR:∀(a b c:List Ev),(∀x∈a,∀y∈b,ltE y x=false)->mergeE a b=a++b
 | [],b,_,_=>by rw[kH,List.nil_append]
 | x::a,[],_,_=>by rw[xJ,zH]
 | x::a,y::b,c,h=>by
   rw[jC,if_neg (by rw[h x List.mem_cons_self y List.mem_cons_self];simp),YR a (y::b) c λz d=>h z (List.mem_cons_of_mem _ d),List.cons_append]
theorem JZ{a1 a2 b1 b2:List Ev}(f:∀x∈a1,∀y∈b2,ltE y x=false)(e:∀x∈a2,∀y∈b1,ltE y x=true):mergeE (a1++a2) (b1++b2)=mergeE a1 b1++mergeE a2 b2:=by
 induction a1,b1 using mergeE.induct with
 | case1 b=>
   rw[kH,List.nil_append]
   induction b with
   | nil=>rfl
   | cons y b d=>
     cases a2 with
     | nil=>rw[kH,kH]
     | cons x a=>
       rw[List.cons_append,jC,if_pos (e x List.mem_cons_self y List.mem_cons_self),d (λz c w g=>e z c w (List.mem_cons_of_mem _ g)),List.cons_append]
 | case2 a h=>
   rw[xJ,List.nil_append]
   clear h e
   induction a with
   | nil=>rfl
   | cons x a d=>
     cases b2 with
     | nil=>rw[xJ,xJ]
     | cons y b=>
       rw[List.cons_append,jC,if_neg (by rw[f x List.mem_cons_self y List.mem_cons_self];simp),d (λz c=>f z (List.mem_cons_of_mem _ c)),List.cons_append]
 | case3 x a y b h d=>
   rw[List.cons_append,List.cons_append,jC,jC,if_pos h,if_pos h, <-List.cons_append,d f (λz c w g=>e z c w (List.mem_cons_of_mem _ g)),List.cons_append]
 | case4 x a y b h d=>
   rw[List.cons_append,List.cons_append,jC,jC,if_neg h,if_neg h, <-List.cons_append,d (λz c=>f z (List.mem_cons_of_mem _ c)) e,List.cons_append]
theorem YS{a1 a2:List Ev}{x:Ev}(a:∀y∈a1,ltE x y=false)(b:∀y∈a2,ltE x y=true):mergeE (a1++a2) [x]=a1++x::a2:=by
 have:=JZ (a1:=a1) (a2:=a2) (b1:=[x]) (b2:=[]) (by simp) (by simpa using b)
 rw[zH] at this
 rw[this,xJ,YR a1 [x] [] (by simpa using a)]
 simp
theorem x7a{b1 b2:List Ev}{x:Ev}(a:∀y∈b1,ltE y x=true)(b:∀y∈b2,ltE y x=false):mergeE [x] (b1++b2)=b1++x::b2:=by
 have:=JZ (a1:=[]) (a2:=[x]) (b1:=b1) (b2:=b2) (by simp) (by simpa using a)
 rw[List.nil_append] at this
 rw[this,kH,YR [x] b2 [] (by simpa using b)]
 simp
theorem Qba{l:List Ev}{x:Ev}:qv (l++[x])=mergeE (qv l) [x]:=by rw[<-Q6,show qv [x]=[x] from rfl]
theorem x8a{a:List Ev}{x z:Ev}(h:Srt (a++[x]))(d:ltE z x=false):∀y∈a++[x],ltE z y=false:=by
 intro y c
 rcases zK.1 c with b|b
 ·have e:=(xn.1 h).2.2 y b x (by simp)
  rw[kR] at *; omega
 ·rw[zW.1 b];exact d
theorem Qca{a:List Ev}{x z:Ev}(h:Srt (a++[x]))(d:ltE x z=true):∀y∈a++[x],ltE y z=true:=by
 intro y c
 rcases zK.1 c with b|b
 ·have e:=(xn.1 h).2.2 y b x (by simp)
  rw[kR] at *; rw[wC] at *; omega
 ·rw[zW.1 b];exact d
theorem x9a{a:List Ev}{x z:Ev}(h:Srt (x::a))(c:ltE x z=false):∀y∈x::a,ltE y z=false:=by
 intro y b
 rcases zx.1 b with rfl|d
 ·exact c
 ·have e:=h.1 y d
  rw[kR] at *; omega
theorem Qda{a:List Ev}{x z:Ev}(h:Srt (x::a))(c:ltE z x=true):∀y∈x::a,ltE z y=true:=by
 intro y b
 rcases zx.1 b with rfl|d
 ·exact c
 ·have e:=h.1 y d
  rw[kR] at e;rw[wC] at *; omega
theorem VPa{a b c:List Ev}{x y:Ev}{i j:Nat}(hi:i=a.length)(d:j=a.length+1+b.length):((a++x::(b++y::c)).set i y).set j x=a++y::(b++x::c):=by
 subst hi d
 rw[zU _ _ (zo _),Nat.sub_self,List.set_cons_zero,zU _ _ (by omega),show a.length+1+b.length - a.length=b.length+1 by omega,List.set_cons_succ,zU _ _ (zo _),Nat.sub_self,List.set_cons_zero]
theorem QB{a c:List Ev}{x:Ev}{i:Nat}(hi:i=a.length):(a++x::c)[i]? =some x:=by
 subst hi
 rw[zX (zo _),Nat.sub_self];rfl
def blkE(n:Nat)(l:List Ev):List Ev:=if h:l.length<=n∨n=0 then qv l else qv (l.take n)++blkE n (l.drop n)
termination_by l.length
decreasing_by simp only[List.length_drop];omega
theorem Xqa(n:Nat)(l:List Ev):(blkE n l).length=l.length:=by
 induction l using blkE.induct n with
 | case1 l h=>rw[blkE,dif_pos h,xl]
 | case2 l h a=>rw[blkE,dif_neg h,zf,xl,a];simp only[zJ,List.length_drop];omega
theorem Qa{n:Nat}{l:List Ev}(h:l.length<=n):blkE n l=qv l:=by rw[blkE,dif_pos (.inl h)]
theorem J0{n:Nat}{a l:List Ev}(b:a.length=n)(c:0<n):blkE n (a++l)=qv a++blkE n l:=by
 cases l with
 | nil=>rw[zH,Qa (by omega),Qa (by simp),qv,zH]
 | cons x l=>
   rw[blkE,dif_neg (by simp only[zf,List.length_cons];omega)]
   subst b
   rw[List.take_left,List.drop_left]
set_option maxRecDepth 100000
attribute [go_sem] Voa Vpa ty3
abbrev ji(l:List Ev)(st:Nat):Ob:= .row 75 11 (l.map evC) st
theorem xo{l:List Ev}{i:Nat}{x:Ev}(h:l[i]? =some x):(l.map evC)[i]? =some (evC x):=by
 rw[zz,h];rfl
theorem K4:∀(q ns:List AV),q.length=ns.length->lay q 0 ns=some ns
 | [],[],_=>rfl
 | a::q,n::ns,h=>by
   simp only[lay]
   rw[K4 q ns (by simpa using h)]
   rfl
 | [],_::_,h=>by cases h
 | _::_,[],h=>by cases h
theorem W6{l:List Ev}{i j:Nat}(e:Ev)(b:j<l.length):∃q,((l.map evC).set i (evC e))[j]? =some q/\∀ns:List AV,ns.length=11->lay q 0 ns=some ns:=by
 by_cases a:i=j
 ·subst a
  exact⟨evC e,zp (by simpa using b),λns h=>K4 _ _ h.symm⟩
 ·rw[zc a]
  exact⟨_,xo (zj b),λns h=>K4 _ _ h.symm⟩
theorem VM{a b c:List Ev}{x y:Ev}{i j:Nat}{l:List Ev}(e:l=a++x::(b++y::c))(hi:i=a.length)(d:j=a.length+1+b.length):((l.map evC).set i (evC y)).set j (evC x)=(a++y::(b++x::c)).map evC:=by
 rw[<-VPa hi d,e,List.map_set,List.map_set]
theorem YT{a b c:List Ev}{x y:Ev}{i j:Nat}{l:List Ev}(e:l=a++x::(b++y::c))(hi:i=a.length)(d:j=a.length+1+b.length):((l.map evC).set j (evC x)).set i (evC y)=(a++y::(b++x::c)).map evC:=by
 rw[List.set_comm _ _ (by omega),VM e hi d]
theorem Qm{a b:Nat}(h:a+b<4611686018427387904):wr ((a:Int)+(b:Int))=((a+b:Nat):Int):=by rw[qp (by unfold Fit;omega)];rfl
theorem Zb{a b:Nat}(h:b<=a)(c:a<4611686018427387904):wr ((a:Int) - (b:Int))=((a - b:Nat):Int):=by rw[qp (by unfold Fit;omega)];omega
theorem K5{a:Nat}(h:1<=a)(c:a<4611686018427387904):wr ((a:Int) - 1)=((a - 1:Nat):Int):=Zb (b:=1) h c
theorem qf{k m:Nat}(h:k<9223372036854775807)(a:m=k+1):AV.v (.int .i64 (IntKind.wrap .i64 ((k:Int)+1)))=i64 (m:Int):=by
 rw[show IntKind.wrap .i64 ((k:Int)+1)=((k+1:Nat):Int) from xF h,a]
theorem dlt{a b:Nat}(e:decide ((a:Int)<(b:Int))=true):a<b:=by simpa using e
theorem j9{a b:Nat}(e:decide ((a:Int)<(b:Int))=false):b<=a:=by simpa using e
theorem yva{l U V:List Ev}{x:Ev}(h:qv l=U++V)(b:∀y∈V,ltE x y=true)(a:∀y∈U,ltE x y=false):qv (l++[x])=U++x::V:=by
 rw[Qba,h,YS a b]
theorem zgb(h:List Ob)(id st a b n:Nat)(P X M Y Q:List Ev)(f:AV)(hi:h[id]? =some (ji (P++(X++(M++(Y++Q)))) st))(V:a=P.length)(F:b=P.length+X.length+M.length)(v:X.length=n)(z:Y.length=n)(R:P.length+X.length+M.length+Y.length<1099511627776):
  ACalls Tryz.prog 299 [.tl id st,i64 a,i64 b,i64 n,f] h λr h'=>r= .tup []/\h'=h.set id (ji (P++(Y++(M++(X++Q)))) st):=by
 refine zi Tryz.f299 [] 38 rfl rfl rfl rfl rfl rfl (by decide) (⟨_,_,⟨rfl,rfl⟩,qi hi rfl⟩) λB=>?_
 simp only[go_sem]
 refine zI (by decide) (λm T h'=>∃c p d u,X=c++p/\Y=d++u/\c.length=d.length/\h'=h.set id (ji (P++(d++(p++(M++(c++(u++Q)))))) st)/\T 0= .tl id st/\T 1=i64 a/\T 2=i64 b/\T 3=i64 n/\T 10=i64 c.length/\m=p.length) n
  ⟨[],X,[],Y,rfl,rfl,rfl,by rw[List.nil_append,List.nil_append,qS hi],by simp only[go_sem],by simp only[go_sem],by simp only[go_sem],by simp only[go_sem],by(simp only[go_sem]<;>rfl),v.symm⟩ ?_
 rintro m T h' ⟨c,p,d,u,rfl,rfl,w,rfl,t0,t1,t2,t3,t10,rfl⟩
 simp only[go_sem,t10,t3]
 refine ways (λe=>?_) (λe=>?_)
 ·have A:c.length<n:=by simpa using e
  cases p with
  | nil=>simp at v;omega
  | cons x k=>
  cases u with
  | nil=>simp at z;omega
  | cons y s=>
  simp only[zf,List.length_cons] at v z F R
  have L:∀o,(h.set id o)[id]? =some o:=λo=>zm hi
  obtain⟨l,t⟩:∃l,l=P++(d++(x::k++(M++(c++(y::s++Q))))):=⟨_,rfl⟩
  have g:l=(P++d)++x::((k++(M++c))++y::(s++Q)):=by rw[t];simp
  have E:l.length=P.length+d.length+1+k.length+M.length+c.length+1+s.length+Q.length:=by rw[g];simp;omega
  have C:a+c.length=(P++d).length:=by simp;omega
  have D:b+c.length=(P++d).length+1+(k++(M++c)).length:=by simp;omega
  have U:(l.map evC)[a+c.length]? =some (evC x):=xo (by rw[g];exact QB C)
  have G:(l.map evC)[b+c.length]? =some (evC y):=xo (by
   rw[g,show(P++d)++x::((k++(M++c))++y::(s++Q))=((P++d)++x::(k++(M++c)))++y::(s++Q) by simp]
   exact QB (by rw[D];simp;omega))
  have J:((a+c.length:Nat):Int)<((l.length:Nat):Int):=by omega
  have N:((b+c.length:Nat):Int)<((l.length:Nat):Int):=by omega
  have K:=Qm (a:=a) (b:=c.length) (by omega)
  have H:=Qm (a:=b) (b:=c.length) (by omega)
  obtain⟨q,I,O⟩:=W6 (l:=l) (i:=a+c.length) (j:=b+c.length) y (by omega)
  have S:=VM g C D
  rw[<-t]
  simp only[go_sem]
  refine zL rfl [] 0 [(0,0,[]),(1,0,[]),(2,0,[]),(3,0,[]),(4,0,[]),(5,0,[]),(6,0,[]),(7,0,[]),(8,0,[]),(9,0,[]),(10,0,[]),(11,0,[]),(14,0,[]),(15,0,[]),(16,0,[]),(17,0,[]),(12,0,[]),(13,0,[]),(18,0,[]),(19,0,[]),(20,0,[]),(21,0,[]),(22,0,[]),(23,0,[])] rfl (by decide) (by decide) ?_
  simp only[go_sem,t1,t2,t10,t0,L,U,G,I,O,J,N,K,H,zb,Int.toNat_natCast,zh,qd]
  refine⟨k.length,by simp,c++[x],k,d++[y],s,by simp,by simp,by simp[w],?_,t3,?_,rfl⟩
  ·rw[S];exact congrArg (λl=>h.set id (ji l st)) (by simp)
  ·exact qf (by omega) (by simp)
 ·have A:¬ c.length<n:=by simpa using e
  have:p=[]:=zF (by simp at v;omega)
  subst this
  have:u=[]:=zF (by simp at z v;omega)
  subst this
  simp only[go_sem]
  exact⟨.tup [],by simp only[go_sem],.inl ⟨rfl,by simp⟩⟩
theorem x9b(h:List Ob)(id st a m b:Nat)(P A D Q:List Ev)(f:AV)(hi:h[id]? =some (ji (P++(A++(D++Q))) st))(X:a=P.length)(I:m=P.length+A.length)(W:b=P.length+A.length+D.length)(V:0<A.length)(hB:0<D.length)(U:P.length+A.length+D.length<1099511627776):
  ACalls Tryz.prog 283 [.tl id st,i64 a,i64 m,i64 b,f] h λr h'=>r= .tup []/\h'=h.set id (ji (P++(D++(A++Q))) st):=by
 have O:wr ((m:Int) - (a:Int))=(A.length:Int):=by rw[Zb (by omega) (by omega)];omega
 have J:wr ((b:Int) - (m:Int))=(D.length:Int):=by rw[Zb (by omega) (by omega)];omega
 refine zi Tryz.f283 [] 58 rfl rfl rfl rfl rfl rfl (by decide) (⟨_,_,⟨rfl,rfl⟩,qi hi rfl⟩) λB=>?_
 simp only[go_sem,O,J]
 refine zI (by decide) (λn T h'=>∃L c d R,P++(D++(A++Q))=L++(d++(c++R))/\L.length+c.length=m/\0<c.length/\0<d.length/\L.length+c.length+d.length<1099511627776/\h'=h.set id (ji (L++(c++(d++R))) st)/\T 0= .tl id st/\T 2=i64 m/\T 4=f/\T 10=i64 c.length/\T 11=i64 d.length/\n=c.length+d.length) (A.length+D.length)
  ⟨P,A,D,Q,rfl,I.symm,V,hB,U,by rw[qS hi],by simp only[go_sem],by simp only[go_sem],by simp only[go_sem],by simp only[go_sem],by simp only[go_sem],rfl⟩ ?_
 rintro n T h' ⟨L,c,d,R,heq,N,M,S,K,rfl,t0,t2,t4,t10,g,rfl⟩
 have E:∀o,(h.set id o)[id]? =some o:=λo=>zm hi
 have F:wr ((m:Int) - (c.length:Int))=((m - c.length:Nat):Int):=Zb (by omega) (by omega)
 simp only[go_sem,t10,g]
 refine ways (λe=>?_) (λe=>?_)
 ·simp only[go_sem,t10,g]
  have t:c.length≠d.length:=λk=>by simp[k] at e
  refine ways (λz=>?_) (λz=>?_)
  ·have C:d.length<c.length:=by simpa using z
   obtain⟨j,l,i,v⟩:∃j l,c=j++l/\j.length=d.length:=⟨c.take d.length,c.drop d.length,(qQ _ _).symm,by simp;omega⟩
   have y:wr ((c.length:Int) - (d.length:Int))=((l.length:Nat):Int):=by
    rw[Zb (by omega) (by omega),i,zf];omega
   have w:c.length=j.length+l.length:=by rw[i,zf]
   simp only[go_sem,t0,t2,t4,t10,g,F]
   refine zg (zgb _ id st _ _ _ L j l d R f (by rw[E,i];simp) (by omega) (by omega) v rfl (by omega)) ?_
   rintro _ G ⟨rfl,x⟩
   subst x
   simp only[go_sem,t0,t2,t4,t10,g,y,qd]
   refine⟨l.length+j.length,by omega,L++d,l,j,R,by rw[heq,i];simp,by simp;omega,by omega,by omega,by simp;omega,by simp,rfl,by rw[v],rfl⟩
  ·have C:c.length<d.length:=by
    have:¬ d.length<c.length:=by simpa using z
    omega
   obtain⟨q,s,p,u⟩:∃q s,d=q++s/\s.length=c.length:=⟨d.take (d.length - c.length),d.drop (d.length - c.length),(qQ _ _).symm,by simp;omega⟩
   have w:d.length=q.length+s.length:=by rw[p,zf]
   have y:wr ((d.length:Int) - (c.length:Int))=((q.length:Nat):Int):=by
    rw[Zb (by omega) (by omega)];omega
   have H:wr (wr ((m:Int)+(d.length:Int)) - (c.length:Int))=((m+d.length - c.length:Nat):Int):=by
    rw[Qm (by omega),Zb (by omega) (by omega)]
   simp only[go_sem,t0,t2,t4,t10,g,F,H]
   refine zg (zgb _ id st _ _ _ L c q s R f (by rw[E,p];simp) (by omega) (by omega) rfl u (by omega)) ?_
   rintro _ G ⟨rfl,x⟩
   subst x
   simp only[go_sem,t0,t2,t4,t10,g,y,qd]
   refine⟨s.length+q.length,by omega,L,s,q,c++R,by rw[heq,p];simp,by omega,by omega,by omega,by omega,by simp,by rw[u],rfl,rfl⟩
 ·have t:c.length=d.length:=by
   have:(c.length:Int)=d.length:=by simpa using e
   omega
  simp only[go_sem,t0,t2,t4,t10,g,F]
  refine zg (zgb _ id st _ _ _ L c [] d R f (by rw[E];simp) (by omega) (by simp only[List.length_nil];omega) rfl t.symm (by simp only[List.length_nil];omega)) ?_
  rintro _ G ⟨rfl,x⟩
  subst x
  simp only[go_sem,qd]
  exact⟨.tup [],by simp only[go_sem],.inl ⟨rfl,by rw[heq]⟩⟩
theorem jjb(h:List Ob)(id st a b:Nat)(P S Q:List Ev)(hi:h[id]? =some (ji (P++(S++Q)) st))(ha:a=P.length)(A:b=P.length+S.length)(hl:(P++(S++Q)).length<1099511627776):
  ACalls Tryz.prog 237 [.tl id st,i64 a,i64 b,.fn (.func 111) [] []] h λr h'=>r= .tup []/\h'=h.set id (ji (P++(qv S++Q)) st):=by
 have W:∀o,(h.set id o)[id]? =some o:=λo=>zm hi
 simp only[zf] at hl
 have w1:wr ((a:Int)+1)=((a+1:Nat):Int):=xF (by omega)
 refine zi Tryz.f237 [] 53 rfl rfl rfl rfl rfl rfl (by decide) (⟨_,_,⟨rfl,rfl⟩,qi hi rfl⟩) λB=>?_
 simp only[go_sem,w1]
 refine zI (by decide) (λn T h'=>∃d z,S=d++z/\h'=h.set id (ji (P++(qv d++(z++Q))) st)/\T 0= .tl id st/\T 1=i64 a/\T 2=i64 b/\T 3= .fn (.func 111) [] []/\T 8=i64 (a+d.length+(if S=[] then 1 else 0):Nat)/\n=z.length) (S.length - 1) ?_ ?_
 ·cases S with
  | nil=>exact⟨[],[],rfl,by rw[qv,List.nil_append,qS hi],by simp only[go_sem],by simp only[go_sem],by simp only[go_sem],by simp only[go_sem],by simp only[go_sem],rfl⟩
  | cons x S=>exact⟨[x],S,rfl,(qS hi).symm,by simp only[go_sem],by simp only[go_sem],by simp only[go_sem],by simp only[go_sem],by simp only[go_sem],rfl⟩
 rintro n T h' ⟨d,z,s,rfl,t0,t1,t2,t3,t8,rfl⟩
 simp only[go_sem,t8,t2]
 refine ways (λe=>?_) (λe=>?_)
 ·have w:a+d.length+(if S=[] then 1 else 0)<b:=dlt e
  have c:S≠[]:=λk=>by rw[k] at w A;simp at w A;omega
  rw[if_neg c] at t8 w
  cases z with
  | nil=>rw[s] at A;simp at A;omega
  | cons x g=>
  have α:S.length=d.length+1+g.length:=by rw[s];simp;omega
  have D:=xl d
  simp only[go_sem,t8]
  refine zI (by decide) (λn T h'=>∃U V,qv d=U++V/\(∀y∈V,ltE x y=true)/\h'=h.set id (ji (P++(U++(x::(V++(g++Q))))) st)/\T 0= .tl id st/\T 1=i64 a/\T 2=i64 b/\T 3= .fn (.func 111) [] []/\T 8=i64 (a+d.length:Nat)/\T 9=i64 (a+U.length:Nat)/\n=U.length) (qv d).length
   ⟨qv d,[],by simp,by simp,by simp,by simp only[go_sem,t0],by simp only[go_sem,t1],by simp only[go_sem,t2],by simp only[go_sem,t3],by simp only[go_sem,t8,c],by simp only[go_sem,t8,c,D],rfl⟩ ?_
  rintro n T h' ⟨U,V,f,G,rfl,t0,t1,t2,t3,t8,t9,rfl⟩
  have C:d.length=U.length+V.length:=by rw[<-D,f,zf]
  have E:=qf (k:=a+d.length) (m:=a+(d++[x]).length) (by omega) (by simp;omega)
  rcases List.eq_nil_or_concat U with rfl|⟨U,u,rfl⟩
  ·simp only[go_sem]
   refine zL rfl [] 0 [(0,0,[]),(1,0,[]),(2,0,[]),(3,0,[]),(4,0,[]),(5,0,[]),(6,0,[]),(9,0,[]),(10,0,[]),(11,0,[]),(7,0,[]),(8,0,[]),(12,0,[]),(13,0,[]),(14,0,[]),(15,0,[]),(16,0,[])] rfl (by decide) (by decide) ?_
   have t9:T 9=i64 (a:Int):=t9
   simp only[go_sem,t9,t1,t8,gt_iff_lt,Int.lt_irrefl,decide_false,beq_self_eq_true,Bool.false_eq_true,Bool.true_eq_false]
   refine⟨g.length,by simp,d++[x],g,by rw[s];simp,?_,t0,t2,t3,?_,rfl⟩
   ·rw[yva f G (by simp)];rfl
   ·rw[if_neg c];exact E
  ·rw[List.concat_eq_append] at*
   simp only[zf,List.length_cons,List.length_nil] at C t9
   obtain⟨l,t⟩:∃l,l=P++(U++[u]++(x::(V++(g++Q)))):=⟨_,rfl⟩
   have p:l=(P++U)++u::([]++x::(V++(g++Q))):=by rw[t];simp
   have R:l.length=P.length+U.length+2+V.length+g.length+Q.length:=by rw[p];simp;omega
   have K:a+U.length=(P++U).length:=by simp;omega
   have O:a+(U.length+1)=(P++U).length+1+([]:List Ev).length:=by simp;omega
   have Y:(l.map evC)[a+U.length]? =some (evC u):=xo (by rw[p];exact QB K)
   have L:(l.map evC)[a+(U.length+1)]? =some (evC x):=xo (by
    rw[p,show(P++U)++u::([]++x::(V++(g++Q)))=((P++U)++[u])++x::(V++(g++Q)) by simp]
    exact QB (by rw[O];simp;omega))
   have N:((a+U.length:Nat):Int)<((l.length:Nat):Int):=by omega
   have X:((a+(U.length+1):Nat):Int)<((l.length:Nat):Int):=by omega
   have f1:((a:Nat):Int)<((a+(U.length+1):Nat):Int):=by omega
   have M:wr (((a+(U.length+1):Nat):Int) - 1)=((a+U.length:Nat):Int):=by
    rw[K5 (by omega) (by omega)];omega
   obtain⟨q,Z,q2⟩:=W6 (l:=l) (i:=a+(U.length+1)) (j:=a+U.length) u (by omega)
   have sw:=YT p K O
   rw[<-t]
   simp only[go_sem]
   refine zL rfl [] 0 [(0,0,[]),(1,0,[]),(2,0,[]),(3,0,[]),(4,0,[]),(5,0,[]),(6,0,[]),(9,0,[]),(10,0,[]),(11,0,[]),(7,0,[]),(8,0,[]),(12,0,[]),(13,0,[]),(14,0,[]),(15,0,[]),(16,0,[])] rfl (by decide) (by decide) ?_
   simp only[go_sem,t9,t1,t0,t3,gt_iff_lt,f1,decide_true,W,Y,L,N,X,M,zb,Int.toNat_natCast,zh,beq_self_eq_true,Bool.false_eq_true,Bool.true_eq_false]
   refine zg (c89 x u _) ?_
   rintro _ h1 ⟨rfl,e3⟩
   subst e3
   simp only[go_sem]
   refine ways (λv=>?_) (λv=>?_)
   ·have v:ltE x u=true:=v
    simp only[go_sem]
    refine zL rfl [] 0 [(0,0,[]),(1,0,[]),(2,0,[]),(3,0,[]),(4,0,[]),(5,0,[]),(6,0,[]),(7,0,[]),(10,0,[]),(11,0,[]),(8,0,[]),(9,0,[]),(12,0,[]),(13,0,[]),(14,0,[]),(15,0,[]),(16,0,[]),(17,0,[])] rfl (by decide) (by decide) ?_
    simp only[go_sem,t9,t1,t0,t3,W,Y,L,Z,q2,N,X,M,zb,Int.toNat_natCast,zh,qd]
    refine⟨U.length,by simp,U,u::V,by rw[f];simp,λy J=>?_,?_,t2,t8,rfl,rfl⟩
    ·rcases zx.1 J with rfl|J
     ·exact v
     ·exact G y J
    ·rw[sw];exact congrArg (λl=>h.set id (ji l st)) (by simp)
   ·have v:ltE x u=false:=v
    simp only[go_sem,t8]
    have I:Srt ((U++[u])++V):=by rw[<-f];exact ko _
    refine⟨g.length,by simp,d++[x],g,by rw[s];simp,?_,t0,t1,t2,t3,?_,rfl⟩
    ·rw[yva f G (x8a (xn.1 I).1 v),t];exact congrArg (λl=>h.set id (ji l st)) (by simp)
    ·rw[if_neg c];exact E
 ·have F:=j9 e
  have H:z=[]:=by
   apply zF
   rw[s,zf] at A
   by_cases c:S=[]
   ·rw[s] at c;simp at c;simp[c]
   ·rw[if_neg c] at F;omega
  subst H
  rw[zH] at s
  subst s
  simp only[go_sem]
  exact⟨.tup [],by simp only[go_sem],.inl ⟨rfl,by simp⟩⟩
