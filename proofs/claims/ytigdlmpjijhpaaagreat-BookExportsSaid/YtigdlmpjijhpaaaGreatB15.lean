import Derived.Test.YtigdlmpjijhpaaaGreatBA
import Derived.Test.YtigdlmpjijhpaaaGreatB13
set_option linter.all false
namespace Go.Proofs.YtigdlmpjijhpaaaGreat.Ax
open Go Go.Proofs
instance:Inhabited Ev:=⟨⟨0,0,0,0,0,0,0,0,0,0,0⟩⟩
def ltE(a b:Ev):Bool:=decide (Vaa a b<0)
theorem wv(a b:Ev):ltE a b=true↔(a.at_<b.at_∨(a.at_=b.at_/\a.id<b.id)):=by
 simp only[ltE,decide_eq_true_eq]
 unfold Vaa jKa orI orI orI
 by_cases c:a.at_<b.at_
 ·rw[if_pos c];simp[c]
 ·rw[if_neg c]
  by_cases e:a.at_>b.at_
  ·rw[if_pos e];simp;omega
  ·rw[if_neg e]
   by_cases d:a.id<b.id
   ·rw[if_pos d];simp;omega
   ·rw[if_neg d]
    split<;>simp<;>omega
theorem kJ(a b:Ev):ltE a b=false↔¬ (a.at_<b.at_∨(a.at_=b.at_/\a.id<b.id)):=by
 rw[<-wv,Bool.not_eq_true]
def mergeE:List Ev->List Ev->List Ev
 | [],b=>b
 | a,[]=>a
 | x::a,y::b=>if ltE y x then y::mergeE (x::a) b else x::mergeE a (y::b)
termination_by a b=>a.length+b.length
theorem kv(b:List Ev):mergeE [] b=b:=by rw[mergeE]
theorem xB(a:List Ev):mergeE a []=a:=by cases a<;>simp[mergeE]
theorem jy(x y:Ev)(a b:List Ev):mergeE (x::a) (y::b)=if ltE y x then y::mergeE (x::a) b else x::mergeE a (y::b):=by rw[mergeE]
def wW(x:Ev):List Ev->List Ev
 | []=>[x]
 | y::b=>if ltE y x then y::wW x b else x::y::b
def qu:List Ev->List Ev
 | []=>[]
 | x::l=>wW x (qu l)
theorem xTa(x:Ev):∀l,(wW x l).length=l.length+1
 | []=>rfl
 | y::l=>by
   simp only[wW]
   split
   ·simp[xTa x l]
   ·simp
theorem j6:∀l,(qu l).length=l.length
 | []=>rfl
 | x::l=>by simp[qu,xTa,j6 l]
theorem qGa(x:Ev):∀b,mergeE [x] b=wW x b
 | []=>by simp[mergeE,wW]
 | y::b=>by
   rw[jy,wW,kv]
   split
   ·rw[qGa x b]
   ·rfl
theorem jB(x y:Ev)(b:List Ev):wW x (y::b)=if ltE y x then y::wW x b else x::y::b:=rfl
theorem QI(x:Ev):∀(a b:List Ev),mergeE (wW x a) b=wW x (mergeE a b)
 | [],b=>by rw[kv,wW,qGa]
 | s::a,[]=>by rw[xB,xB]
 | s::a,t::b=>by
   rw[jB]
   by_cases d:ltE s x
   ·rw[if_pos d,jy,jy]
    by_cases c:ltE t s
    ·rw[if_pos c,if_pos c,jB,if_pos (by rw[wv] at *; omega)]
     have:=QI x (s::a) b
     rw[jB,if_pos d] at this
     rw[this]
    ·rw[if_neg c,if_neg c,jB,if_pos d,QI x a (t::b)]
   ·rw[if_neg d,jy]
    by_cases c:ltE t x
    ·have e:ltE t s=true:=by
      rw[Bool.not_eq_true,kJ] at d
      rw[wv] at *; omega
     rw[if_pos c,jy,if_pos e,jB,if_pos c]
     have:=QI x (s::a) b
     rw[jB,if_neg d] at this
     rw[this]
    ·rw[if_neg c,jy]
     split
     ·rw[jB,if_neg c]
     ·rw[jB,if_neg d]
termination_by a b=>a.length+b.length
theorem QJ(b:List Ev):∀a,mergeE (qu a) (qu b)=qu (a++b)
 | []=>by rw[qu,kv,List.nil_append]
 | x::a=>by rw[qu,QI,QJ b a,List.cons_append,qu]
def Srt:List Ev->Prop
 | []=>True
 | x::l=>(∀y∈l,ltE y x=false)/\Srt l
theorem YB{x z:Ev}:∀ {l:List Ev},z∈wW x l↔z=x∨z∈l
 | []=>by simp[wW]
 | y::l=>by
   rw[jB]
   split
   ·simp only[zE,YB (l:=l)]
    constructor<;>(rintro (h|h|h)<;>simp[h])
   ·simp
theorem xUa(x:Ev):∀ {l:List Ev},Srt l->Srt (wW x l)
 | [],_=>⟨λy h=>(by cases h),trivial⟩
 | y::l,⟨b,c⟩=>by
   rw[jB]
   split
   ·rename_i h
    refine⟨λz a=>?_,xUa x c⟩
    rcases YB.1 a with rfl|a
    ·rw[kJ];rw[wv] at h;omega
    ·exact b z a
   ·rename_i h
    refine⟨λz a=>?_,b,c⟩
    rw[Bool.not_eq_true] at h
    rcases zE.1 a with rfl|a
    ·exact h
    ·have:=b z a
     rw[kJ] at *; omega
theorem vp:∀l,Srt (qu l)
 | []=>trivial
 | x::l=>xUa x (vp l)
theorem Vx{z:Ev}:∀ {l:List Ev},z∈qu l↔z∈l
 | []=>by simp[qu]
 | x::l=>by rw[qu,YB,Vx,zE]
theorem xW{a b:List Ev}:Srt (a++b)↔Srt a/\Srt b/\∀x∈a,∀y∈b,ltE y x=false:=by
 induction a with
 | nil=>simp[Srt]
 | cons x a i=>
   rw[List.cons_append,Srt,i,Srt]
   constructor
   ·rintro ⟨e,g,h,f⟩
    refine⟨⟨λy c=>e y (List.mem_append_left _ c),g⟩,h,λz d y c=>?_⟩
    rcases zE.1 d with rfl|d
    ·exact e y (List.mem_append_right _ c)
    ·exact f z d y c
   ·rintro ⟨⟨e,g⟩,h,f⟩
    refine⟨λy c=>?_,g,h,λz d y c=>f z (List.mem_cons_of_mem _ d) y c⟩
    rcases zJ.1 c with c|c
    ·exact e y c
    ·exact f x List.mem_cons_self y c
theorem ZRa(a b:List Ev):(mergeE a b).length=a.length+b.length:=by
 induction a,b using mergeE.induct with
 | case1 b=>simp[mergeE]
 | case2 a h=>rw[xB];simp
 | case3 x a y b h c=>rw[jy,if_pos h];simp only[List.length_cons] at *; omega
 | case4 x a y b h c=>rw[jy,if_neg h];simp only[List.length_cons] at *; omega
theorem YC:∀(a b c:List Ev),(∀x∈a,∀y∈b,ltE y x=false)->mergeE a b=a++b
 | [],b,_,_=>by rw[kv,List.nil_append]
 | x::a,[],_,_=>by rw[xB,zF]
 | x::a,y::b,c,h=>by
   rw[jy,if_neg (by rw[h x List.mem_cons_self y List.mem_cons_self];simp),YC a (y::b) c λz d=>h z (List.mem_cons_of_mem _ d),List.cons_append]
theorem JD{a1 a2 b1 b2:List Ev}(f:∀x∈a1,∀y∈b2,ltE y x=false)(e:∀x∈a2,∀y∈b1,ltE y x=true):mergeE (a1++a2) (b1++b2)=mergeE a1 b1++mergeE a2 b2:=by
 induction a1,b1 using mergeE.induct with
 | case1 b=>
   rw[kv,List.nil_append]
   induction b with
   | nil=>rfl
   | cons y b d=>
     cases a2 with
     | nil=>rw[kv,kv]
     | cons x a=>
       rw[List.cons_append,jy,if_pos (e x List.mem_cons_self y List.mem_cons_self),d (λz c w g=>e z c w (List.mem_cons_of_mem _ g)),List.cons_append]
 | case2 a h=>
   rw[xB,List.nil_append]
   clear h e
   induction a with
   | nil=>rfl
   | cons x a d=>
     cases b2 with
     | nil=>rw[xB,xB]
     | cons y b=>
       rw[List.cons_append,jy,if_neg (by rw[f x List.mem_cons_self y List.mem_cons_self];simp),d (λz c=>f z (List.mem_cons_of_mem _ c)),List.cons_append]
 | case3 x a y b h d=>
   rw[List.cons_append,List.cons_append,jy,jy,if_pos h,if_pos h, <-List.cons_append,d f (λz c w g=>e z c w (List.mem_cons_of_mem _ g)),List.cons_append]
 | case4 x a y b h d=>
   rw[List.cons_append,List.cons_append,jy,jy,if_neg h,if_neg h, <-List.cons_append,d (λz c=>f z (List.mem_cons_of_mem _ c)) e,List.cons_append]
theorem YD{a1 a2:List Ev}{x:Ev}(b:∀y∈a1,ltE x y=false)(a:∀y∈a2,ltE x y=true):mergeE (a1++a2) [x]=a1++x::a2:=by
 have:=JD (a1:=a1) (a2:=a2) (b1:=[x]) (b2:=[]) (by simp) (by simpa using a)
 rw[zF] at this
 rw[this,xB,YC a1 [x] [] (by simpa using b)]
 simp
theorem xVa{b1 b2:List Ev}{x:Ev}(b:∀y∈b1,ltE y x=true)(a:∀y∈b2,ltE y x=false):mergeE [x] (b1++b2)=b1++x::b2:=by
 have:=JD (a1:=[]) (a2:=[x]) (b1:=b1) (b2:=b2) (by simp) (by simpa using b)
 rw[List.nil_append] at this
 rw[this,kv,YC [x] b2 [] (by simpa using a)]
 simp
theorem ZSa{l:List Ev}{x:Ev}:qu (l++[x])=mergeE (qu l) [x]:=by rw[<-QJ,show qu [x]=[x] from rfl]
theorem xWa{a:List Ev}{x z:Ev}(h:Srt (a++[x]))(d:ltE z x=false):∀y∈a++[x],ltE z y=false:=by
 intro y c
 rcases zJ.1 c with b|b
 ·have e:=(xW.1 h).2.2 y b x (by simp)
  rw[kJ] at *; omega
 ·rw[zN.1 b];exact d
theorem ZTa{a:List Ev}{x z:Ev}(h:Srt (a++[x]))(d:ltE x z=true):∀y∈a++[x],ltE y z=true:=by
 intro y c
 rcases zJ.1 c with b|b
 ·have e:=(xW.1 h).2.2 y b x (by simp)
  rw[kJ] at *; rw[wv] at *; omega
 ·rw[zN.1 b];exact d
theorem xXa{a:List Ev}{x z:Ev}(h:Srt (x::a))(d:ltE x z=false):∀y∈x::a,ltE y z=false:=by
 intro y c
 rcases zE.1 c with rfl|b
 ·exact d
 ·have e:=h.1 y b
  rw[kJ] at *; omega
theorem ZUa{a:List Ev}{x z:Ev}(h:Srt (x::a))(e:ltE z x=true):∀y∈x::a,ltE z y=true:=by
 intro y d
 rcases zE.1 d with rfl|b
 ·exact e
 ·have c:=h.1 y b
  rw[kJ] at c;rw[wv] at *; omega
theorem Vba{a b c:List Ev}{x y:Ev}{i j:Nat}(hi:i=a.length)(d:j=a.length+1+b.length):((a++x::(b++y::c)).set i y).set j x=a++y::(b++x::c):=by
 subst hi d
 rw[zL _ _ (zn _),Nat.sub_self,List.set_cons_zero,zL _ _ (by omega),show a.length+1+b.length - a.length=b.length+1 by omega,List.set_cons_succ,zL _ _ (zn _),Nat.sub_self,List.set_cons_zero]
theorem Qi{a c:List Ev}{x:Ev}{i:Nat}(hi:i=a.length):(a++x::c)[i]? =some x:=by
 subst hi
 rw[zQ (zn _),Nat.sub_self];rfl
def blkE(n:Nat)(l:List Ev):List Ev:=if h:l.length<=n∨n=0 then qu l else qu (l.take n)++blkE n (l.drop n)
termination_by l.length
decreasing_by simp only[List.length_drop];omega
theorem JTa(n:Nat)(l:List Ev):(blkE n l).length=l.length:=by
 induction l using blkE.induct n with
 | case1 l h=>rw[blkE,dif_pos h,j6]
 | case2 l h a=>rw[blkE,dif_neg h,ze,j6,a];simp only[qa,List.length_drop];omega
theorem ZZ{n:Nat}{l:List Ev}(h:l.length<=n):blkE n l=qu l:=by rw[blkE,dif_pos (.inl h)]
theorem JE{n:Nat}{a l:List Ev}(b:a.length=n)(c:0<n):blkE n (a++l)=qu a++blkE n l:=by
 cases l with
 | nil=>rw[zF,ZZ (by omega),ZZ (by simp),qu,zF]
 | cons x l=>
   rw[blkE,dif_neg (by simp only[ze,List.length_cons];omega)]
   subst b
   rw[List.take_left,List.drop_left]
set_option maxRecDepth 100000
attribute [go_sem] KKa KLa ty3
abbrev jg(l:List Ev)(st:Nat):Ob:= .row 75 11 (l.map evC) st
theorem j9{l:List Ev}{i:Nat}{x:Ev}(h:l[i]? =some x):(l.map evC)[i]? =some (evC x):=by
 rw[zx,h];rfl
theorem YE:∀(q ns:List AV),q.length=ns.length->lay q 0 ns=some ns
 | [],[],_=>rfl
 | a::q,n::ns,h=>by
   simp only[lay]
   rw[YE q ns (by simpa using h)]
   rfl
 | [],_::_,h=>by cases h
 | _::_,[],h=>by cases h
theorem WR{l:List Ev}{i j:Nat}(e:Ev)(b:j<l.length):∃q,((l.map evC).set i (evC e))[j]? =some q/\∀ns:List AV,ns.length=11->lay q 0 ns=some ns:=by
 by_cases a:i=j
 ·subst a
  exact⟨evC e,zo (by simpa using b),λns h=>YE _ _ h.symm⟩
 ·rw[zc a]
  exact⟨_,j9 (zi b),λns h=>YE _ _ h.symm⟩
theorem Vy{a b c:List Ev}{x y:Ev}{i j:Nat}{l:List Ev}(e:l=a++x::(b++y::c))(hi:i=a.length)(d:j=a.length+1+b.length):((l.map evC).set i (evC y)).set j (evC x)=(a++y::(b++x::c)).map evC:=by
 rw[<-Vba hi d,e,List.map_set,List.map_set]
theorem YF{a b c:List Ev}{x y:Ev}{i j:Nat}{l:List Ev}(e:l=a++x::(b++y::c))(hi:i=a.length)(d:j=a.length+1+b.length):((l.map evC).set j (evC x)).set i (evC y)=(a++y::(b++x::c)).map evC:=by
 rw[List.set_comm _ _ (by omega),Vy e hi d]
theorem Z8{a b:Nat}(h:a+b<4611686018427387904):wr ((a:Int)+(b:Int))=((a+b:Nat):Int):=by rw[qp (by unfold Fit;omega)];rfl
theorem yT{a b:Nat}(h:b<=a)(c:a<4611686018427387904):wr ((a:Int) - (b:Int))=((a - b:Nat):Int):=by rw[qp (by unfold Fit;omega)];omega
theorem KH{a:Nat}(h:1<=a)(c:a<4611686018427387904):wr ((a:Int) - 1)=((a - 1:Nat):Int):=yT (b:=1) h c
theorem qm{k m:Nat}(h:k<9223372036854775807)(a:m=k+1):AV.v (.int .i64 (IntKind.wrap .i64 ((k:Int)+1)))=i64 (m:Int):=by
 rw[show IntKind.wrap .i64 ((k:Int)+1)=((k+1:Nat):Int) from xx h,a]
theorem dlt{a b:Nat}(e:decide ((a:Int)<(b:Int))=true):a<b:=by simpa using e
theorem xb{a b:Nat}(e:decide ((a:Int)<(b:Int))=false):b<=a:=by simpa using e
theorem yna{l U V:List Ev}{x:Ev}(h:qu l=U++V)(a:∀y∈V,ltE x y=true)(b:∀y∈U,ltE x y=false):qu (l++[x])=U++x::V:=by
 rw[ZSa,h,YD b a]
theorem YAa(h:List Ob)(id st a b n:Nat)(P X M Y Q:List Ev)(f:AV)(hi:h[id]? =some (jg (P++(X++(M++(Y++Q)))) st))(V:a=P.length)(O:b=P.length+X.length+M.length)(v:X.length=n)(A:Y.length=n)(U:P.length+X.length+M.length+Y.length<1099511627776):
  ACalls Tryz.prog 299 [.tl id st,i64 a,i64 b,i64 n,f] h λr h'=>r= .tup []/\h'=h.set id (jg (P++(Y++(M++(X++Q)))) st):=by
 refine zj Tryz.f299 [] 38 rfl rfl rfl rfl rfl rfl (by decide) (⟨_,_,⟨rfl,rfl⟩,qj hi rfl⟩) λB=>?_
 simp only[go_sem]
 refine zP (by decide) (λm T h'=>∃c s d u,X=c++s/\Y=d++u/\c.length=d.length/\h'=h.set id (jg (P++(d++(s++(M++(c++(u++Q)))))) st)/\T 0= .tl id st/\T 1=i64 a/\T 2=i64 b/\T 3=i64 n/\T 10=i64 c.length/\m=s.length) n
  ⟨[],X,[],Y,rfl,rfl,rfl,by rw[List.nil_append,List.nil_append,qM hi],by simp only[go_sem],by simp only[go_sem],by simp only[go_sem],by simp only[go_sem],by(simp only[go_sem]<;>rfl),v.symm⟩ ?_
 rintro m T h' ⟨c,s,d,u,rfl,rfl,z,rfl,t0,t1,t2,t3,t10,rfl⟩
 simp only[go_sem,t10,t3]
 refine ways (λe=>?_) (λe=>?_)
 ·have w:c.length<n:=by simpa using e
  cases s with
  | nil=>simp at v;omega
  | cons x k=>
  cases u with
  | nil=>simp at A;omega
  | cons y p=>
  simp only[ze,List.length_cons] at v A O U
  have L:∀o,(h.set id o)[id]? =some o:=λo=>zq hi
  obtain⟨l,t⟩:∃l,l=P++(d++(x::k++(M++(c++(y::p++Q))))):=⟨_,rfl⟩
  have g:l=(P++d)++x::((k++(M++c))++y::(p++Q)):=by rw[t];simp
  have C:l.length=P.length+d.length+1+k.length+M.length+c.length+1+p.length+Q.length:=by rw[g];simp;omega
  have D:a+c.length=(P++d).length:=by simp;omega
  have E:b+c.length=(P++d).length+1+(k++(M++c)).length:=by simp;omega
  have I:(l.map evC)[a+c.length]? =some (evC x):=j9 (by rw[g];exact Qi D)
  have J:(l.map evC)[b+c.length]? =some (evC y):=j9 (by
   rw[g,show(P++d)++x::((k++(M++c))++y::(p++Q))=((P++d)++x::(k++(M++c)))++y::(p++Q) by simp]
   exact Qi (by rw[E];simp;omega))
  have G:((a+c.length:Nat):Int)<((l.length:Nat):Int):=by omega
  have R:((b+c.length:Nat):Int)<((l.length:Nat):Int):=by omega
  have N:=Z8 (a:=a) (b:=c.length) (by omega)
  have H:=Z8 (a:=b) (b:=c.length) (by omega)
  obtain⟨q,S,K⟩:=WR (l:=l) (i:=a+c.length) (j:=b+c.length) y (by omega)
  have F:=Vy g D E
  rw[<-t]
  simp only[go_sem]
  refine zV rfl [] 0 [(0,0,[]),(1,0,[]),(2,0,[]),(3,0,[]),(4,0,[]),(5,0,[]),(6,0,[]),(7,0,[]),(8,0,[]),(9,0,[]),(10,0,[]),(11,0,[]),(14,0,[]),(15,0,[]),(16,0,[]),(17,0,[]),(12,0,[]),(13,0,[]),(18,0,[]),(19,0,[]),(20,0,[]),(21,0,[]),(22,0,[]),(23,0,[])] rfl (by decide) (by decide) ?_
  simp only[go_sem,t1,t2,t10,t0,L,I,J,S,K,G,R,N,H,zb,Int.toNat_natCast,zh,zU]
  refine⟨k.length,by simp,c++[x],k,d++[y],p,by simp,by simp,by simp[z],?_,t3,?_,rfl⟩
  ·rw[F];exact congrArg (λl=>h.set id (jg l st)) (by simp)
  ·exact qm (by omega) (by simp)
 ·have w:¬ c.length<n:=by simpa using e
  have:s=[]:=zC (by simp at v;omega)
  subst this
  have:u=[]:=zC (by simp at A v;omega)
  subst this
  simp only[go_sem]
  exact⟨.tup [],by simp only[go_sem],.inl ⟨rfl,by simp⟩⟩
theorem xlb(h:List Ob)(id st a m b:Nat)(P A D Q:List Ev)(f:AV)(hi:h[id]? =some (jg (P++(A++(D++Q))) st))(X:a=P.length)(O:m=P.length+A.length)(W:b=P.length+A.length+D.length)(U:0<A.length)(hB:0<D.length)(V:P.length+A.length+D.length<1099511627776):
  ACalls Tryz.prog 283 [.tl id st,i64 a,i64 m,i64 b,f] h λr h'=>r= .tup []/\h'=h.set id (jg (P++(D++(A++Q))) st):=by
 have S:wr ((m:Int) - (a:Int))=(A.length:Int):=by rw[yT (by omega) (by omega)];omega
 have I:wr ((b:Int) - (m:Int))=(D.length:Int):=by rw[yT (by omega) (by omega)];omega
 refine zj Tryz.f283 [] 58 rfl rfl rfl rfl rfl rfl (by decide) (⟨_,_,⟨rfl,rfl⟩,qj hi rfl⟩) λB=>?_
 simp only[go_sem,S,I]
 refine zP (by decide) (λn T h'=>∃L c d R,P++(D++(A++Q))=L++(d++(c++R))/\L.length+c.length=m/\0<c.length/\0<d.length/\L.length+c.length+d.length<1099511627776/\h'=h.set id (jg (L++(c++(d++R))) st)/\T 0= .tl id st/\T 2=i64 m/\T 4=f/\T 10=i64 c.length/\T 11=i64 d.length/\n=c.length+d.length) (A.length+D.length)
  ⟨P,A,D,Q,rfl,O.symm,U,hB,V,by rw[qM hi],by simp only[go_sem],by simp only[go_sem],by simp only[go_sem],by simp only[go_sem],by simp only[go_sem],rfl⟩ ?_
 rintro n T h' ⟨L,c,d,R,heq,N,J,M,K,rfl,t0,t2,t4,t10,g,rfl⟩
 have C:∀o,(h.set id o)[id]? =some o:=λo=>zq hi
 have y:wr ((m:Int) - (c.length:Int))=((m - c.length:Nat):Int):=yT (by omega) (by omega)
 simp only[go_sem,t10,g]
 refine ways (λe=>?_) (λe=>?_)
 ·simp only[go_sem,t10,g]
  have w:c.length≠d.length:=λk=>by simp[k] at e
  refine ways (λE=>?_) (λE=>?_)
  ·have z:d.length<c.length:=by simpa using E
   obtain⟨q,l,i,v⟩:∃q l,c=q++l/\q.length=d.length:=⟨c.take d.length,c.drop d.length,(qL _ _).symm,by simp;omega⟩
   have F:wr ((c.length:Int) - (d.length:Int))=((l.length:Nat):Int):=by
    rw[yT (by omega) (by omega),i,ze];omega
   have u:c.length=q.length+l.length:=by rw[i,ze]
   simp only[go_sem,t0,t2,t4,t10,g,y]
   refine zg (YAa _ id st _ _ _ L q l d R f (by rw[C,i];simp) (by omega) (by omega) v rfl (by omega)) ?_
   rintro _ G ⟨rfl,t⟩
   subst t
   simp only[go_sem,t0,t2,t4,t10,g,F,zU]
   refine⟨l.length+q.length,by omega,L++d,l,q,R,by rw[heq,i];simp,by simp;omega,by omega,by omega,by simp;omega,by simp,rfl,by rw[v],rfl⟩
  ·have z:c.length<d.length:=by
    have:¬ d.length<c.length:=by simpa using E
    omega
   obtain⟨s,p,j,x⟩:∃s p,d=s++p/\p.length=c.length:=⟨d.take (d.length - c.length),d.drop (d.length - c.length),(qL _ _).symm,by simp;omega⟩
   have u:d.length=s.length+p.length:=by rw[j,ze]
   have F:wr ((d.length:Int) - (c.length:Int))=((s.length:Nat):Int):=by
    rw[yT (by omega) (by omega)];omega
   have H:wr (wr ((m:Int)+(d.length:Int)) - (c.length:Int))=((m+d.length - c.length:Nat):Int):=by
    rw[Z8 (by omega),yT (by omega) (by omega)]
   simp only[go_sem,t0,t2,t4,t10,g,y,H]
   refine zg (YAa _ id st _ _ _ L c s p R f (by rw[C,j];simp) (by omega) (by omega) rfl x (by omega)) ?_
   rintro _ G ⟨rfl,t⟩
   subst t
   simp only[go_sem,t0,t2,t4,t10,g,F,zU]
   refine⟨p.length+s.length,by omega,L,p,s,c++R,by rw[heq,j];simp,by omega,by omega,by omega,by omega,by simp,by rw[x],rfl,rfl⟩
 ·have w:c.length=d.length:=by
   have:(c.length:Int)=d.length:=by simpa using e
   omega
  simp only[go_sem,t0,t2,t4,t10,g,y]
  refine zg (YAa _ id st _ _ _ L c [] d R f (by rw[C];simp) (by omega) (by simp only[List.length_nil];omega) rfl w.symm (by simp only[List.length_nil];omega)) ?_
  rintro _ G ⟨rfl,t⟩
  subst t
  simp only[go_sem,zU]
  exact⟨.tup [],by simp only[go_sem],.inl ⟨rfl,by rw[heq]⟩⟩
theorem qyb(h:List Ob)(id st a b:Nat)(P S Q:List Ev)(hi:h[id]? =some (jg (P++(S++Q)) st))(ha:a=P.length)(E:b=P.length+S.length)(hl:(P++(S++Q)).length<1099511627776):
  ACalls Tryz.prog 237 [.tl id st,i64 a,i64 b,.fn (.func 111) [] []] h λr h'=>r= .tup []/\h'=h.set id (jg (P++(qu S++Q)) st):=by
 have W:∀o,(h.set id o)[id]? =some o:=λo=>zq hi
 simp only[ze] at hl
 have w1:wr ((a:Int)+1)=((a+1:Nat):Int):=xx (by omega)
 refine zj Tryz.f237 [] 53 rfl rfl rfl rfl rfl rfl (by decide) (⟨_,_,⟨rfl,rfl⟩,qj hi rfl⟩) λB=>?_
 simp only[go_sem,w1]
 refine zP (by decide) (λn T h'=>∃d z,S=d++z/\h'=h.set id (jg (P++(qu d++(z++Q))) st)/\T 0= .tl id st/\T 1=i64 a/\T 2=i64 b/\T 3= .fn (.func 111) [] []/\T 8=i64 (a+d.length+(if S=[] then 1 else 0):Nat)/\n=z.length) (S.length - 1) ?_ ?_
 ·cases S with
  | nil=>exact⟨[],[],rfl,by rw[qu,List.nil_append,qM hi],by simp only[go_sem],by simp only[go_sem],by simp only[go_sem],by simp only[go_sem],by simp only[go_sem],rfl⟩
  | cons x S=>exact⟨[x],S,rfl,(qM hi).symm,by simp only[go_sem],by simp only[go_sem],by simp only[go_sem],by simp only[go_sem],by simp only[go_sem],rfl⟩
 rintro n T h' ⟨d,z,s,rfl,t0,t1,t2,t3,t8,rfl⟩
 simp only[go_sem,t8,t2]
 refine ways (λe=>?_) (λe=>?_)
 ·have w:a+d.length+(if S=[] then 1 else 0)<b:=dlt e
  have c:S≠[]:=λk=>by rw[k] at w E;simp at w E;omega
  rw[if_neg c] at t8 w
  cases z with
  | nil=>rw[s] at E;simp at E;omega
  | cons x g=>
  have γ:S.length=d.length+1+g.length:=by rw[s];simp;omega
  have A:=j6 d
  simp only[go_sem,t8]
  refine zP (by decide) (λn T h'=>∃U V,qu d=U++V/\(∀y∈V,ltE x y=true)/\h'=h.set id (jg (P++(U++(x::(V++(g++Q))))) st)/\T 0= .tl id st/\T 1=i64 a/\T 2=i64 b/\T 3= .fn (.func 111) [] []/\T 8=i64 (a+d.length:Nat)/\T 9=i64 (a+U.length:Nat)/\n=U.length) (qu d).length
   ⟨qu d,[],by simp,by simp,by simp,by simp only[go_sem,t0],by simp only[go_sem,t1],by simp only[go_sem,t2],by simp only[go_sem,t3],by simp only[go_sem,t8,c],by simp only[go_sem,t8,c,A],rfl⟩ ?_
  rintro n T h' ⟨U,V,f,H,rfl,t0,t1,t2,t3,t8,t9,rfl⟩
  have D:d.length=U.length+V.length:=by rw[<-A,f,ze]
  have C:=qm (k:=a+d.length) (m:=a+(d++[x]).length) (by omega) (by simp;omega)
  rcases List.eq_nil_or_concat U with rfl|⟨U,u,rfl⟩
  ·simp only[go_sem]
   refine zV rfl [] 0 [(0,0,[]),(1,0,[]),(2,0,[]),(3,0,[]),(4,0,[]),(5,0,[]),(6,0,[]),(9,0,[]),(10,0,[]),(11,0,[]),(7,0,[]),(8,0,[]),(12,0,[]),(13,0,[]),(14,0,[]),(15,0,[]),(16,0,[])] rfl (by decide) (by decide) ?_
   have t9:T 9=i64 (a:Int):=t9
   simp only[go_sem,t9,t1,t8,gt_iff_lt,Int.lt_irrefl,decide_false,beq_self_eq_true,Bool.false_eq_true,Bool.true_eq_false]
   refine⟨g.length,by simp,d++[x],g,by rw[s];simp,?_,t0,t2,t3,?_,rfl⟩
   ·rw[yna f H (by simp)];rfl
   ·rw[if_neg c];exact C
  ·rw[List.concat_eq_append] at*
   simp only[ze,List.length_cons,List.length_nil] at D t9
   obtain⟨l,v⟩:∃l,l=P++(U++[u]++(x::(V++(g++Q)))):=⟨_,rfl⟩
   have p:l=(P++U)++u::([]++x::(V++(g++Q))):=by rw[v];simp
   have K:l.length=P.length+U.length+2+V.length+g.length+Q.length:=by rw[p];simp;omega
   have M:a+U.length=(P++U).length:=by simp;omega
   have X:a+(U.length+1)=(P++U).length+1+([]:List Ev).length:=by simp;omega
   have O:(l.map evC)[a+U.length]? =some (evC u):=j9 (by rw[p];exact Qi M)
   have R:(l.map evC)[a+(U.length+1)]? =some (evC x):=j9 (by
    rw[p,show(P++U)++u::([]++x::(V++(g++Q)))=((P++U)++[u])++x::(V++(g++Q)) by simp]
    exact Qi (by rw[X];simp;omega))
   have L:((a+U.length:Nat):Int)<((l.length:Nat):Int):=by omega
   have Y:((a+(U.length+1):Nat):Int)<((l.length:Nat):Int):=by omega
   have f1:((a:Nat):Int)<((a+(U.length+1):Nat):Int):=by omega
   have N:wr (((a+(U.length+1):Nat):Int) - 1)=((a+U.length:Nat):Int):=by
    rw[KH (by omega) (by omega)];omega
   obtain⟨q,q1,q2⟩:=WR (l:=l) (i:=a+(U.length+1)) (j:=a+U.length) u (by omega)
   have sw:=YF p M X
   rw[<-v]
   simp only[go_sem]
   refine zV rfl [] 0 [(0,0,[]),(1,0,[]),(2,0,[]),(3,0,[]),(4,0,[]),(5,0,[]),(6,0,[]),(9,0,[]),(10,0,[]),(11,0,[]),(7,0,[]),(8,0,[]),(12,0,[]),(13,0,[]),(14,0,[]),(15,0,[]),(16,0,[])] rfl (by decide) (by decide) ?_
   simp only[go_sem,t9,t1,t0,t3,gt_iff_lt,f1,decide_true,W,O,R,L,Y,N,zb,Int.toNat_natCast,zh,beq_self_eq_true,Bool.false_eq_true,Bool.true_eq_false]
   refine zg (c89 x u _) ?_
   rintro _ h1 ⟨rfl,Z⟩
   subst Z
   simp only[go_sem]
   refine ways (λt=>?_) (λt=>?_)
   ·have t:ltE x u=true:=t
    simp only[go_sem]
    refine zV rfl [] 0 [(0,0,[]),(1,0,[]),(2,0,[]),(3,0,[]),(4,0,[]),(5,0,[]),(6,0,[]),(7,0,[]),(10,0,[]),(11,0,[]),(8,0,[]),(9,0,[]),(12,0,[]),(13,0,[]),(14,0,[]),(15,0,[]),(16,0,[]),(17,0,[])] rfl (by decide) (by decide) ?_
    simp only[go_sem,t9,t1,t0,t3,W,O,R,q1,q2,L,Y,N,zb,Int.toNat_natCast,zh,zU]
    refine⟨U.length,by simp,U,u::V,by rw[f];simp,λy I=>?_,?_,t2,t8,rfl,rfl⟩
    ·rcases zE.1 I with rfl|I
     ·exact t
     ·exact H y I
    ·rw[sw];exact congrArg (λl=>h.set id (jg l st)) (by simp)
   ·have t:ltE x u=false:=t
    simp only[go_sem,t8]
    have G:Srt ((U++[u])++V):=by rw[<-f];exact vp _
    refine⟨g.length,by simp,d++[x],g,by rw[s];simp,?_,t0,t1,t2,t3,?_,rfl⟩
    ·rw[yna f H (xWa (xW.1 G).1 t),v];exact congrArg (λl=>h.set id (jg l st)) (by simp)
    ·rw[if_neg c];exact C
 ·have J:=xb e
  have F:z=[]:=by
   apply zC
   rw[s,ze] at E
   by_cases c:S=[]
   ·rw[s] at c;simp at c;simp[c]
   ·rw[if_neg c] at J;omega
  subst F
  rw[zF] at s
  subst s
  simp only[go_sem]
  exact⟨.tup [],by simp only[go_sem],.inl ⟨rfl,by simp⟩⟩
