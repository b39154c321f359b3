import Derived.Test.YtigdlmpjijhpaaaGreatKA
import Derived.Test.YtigdlmpjijhpaaaGreatK13
set_option linter.all false
namespace Go.Proofs.YtigdlmpjijhpaaaGreat.Ax
open Go Go.Proofs
instance:Inhabited Ev:=⟨⟨0,0,0,0,0,0,0,0,0,0,0⟩⟩
def ltE(a b:Ev):Bool:=decide (VBa a b<0)
theorem wB(a b:Ev):ltE a b=true↔(a.at_<b.at_∨(a.at_=b.at_/\a.id<b.id)):=by
 simp only[ltE,decide_eq_true_eq]
 unfold VBa Kh orI orI orI
 by_cases c:a.at_<b.at_
 ·rw[if_pos c];simp[c]
 ·rw[if_neg c]
  by_cases d:a.at_>b.at_
  ·rw[if_pos d];simp;omega
  ·rw[if_neg d]
   by_cases e:a.id<b.id
   ·rw[if_pos e];simp;omega
   ·rw[if_neg e]
    split<;>simp<;>omega
theorem kO(a b:Ev):ltE a b=false↔¬ (a.at_<b.at_∨(a.at_=b.at_/\a.id<b.id)):=by
 rw[<-wB,Bool.not_eq_true]
def mergeE:List Ev->List Ev->List Ev
 | [],b=>b
 | a,[]=>a
 | x::a,y::b=>if ltE y x then y::mergeE (x::a) b else x::mergeE a (y::b)
termination_by a b=>a.length+b.length
theorem kC(b:List Ev):mergeE [] b=b:=by rw[mergeE]
theorem xI(a:List Ev):mergeE a []=a:=by cases a<;>simp[mergeE]
theorem jC(x y:Ev)(a b:List Ev):mergeE (x::a) (y::b)=if ltE y x then y::mergeE (x::a) b else x::mergeE a (y::b):=by rw[mergeE]
def vF(x:Ev):List Ev->List Ev
 | []=>[x]
 | y::b=>if ltE y x then y::vF x b else x::y::b
def qu:List Ev->List Ev
 | []=>[]
 | x::l=>vF x (qu l)
theorem x3a(x:Ev):∀l,(vF x l).length=l.length+1
 | []=>rfl
 | y::l=>by
   simp only[vF]
   split
   ·simp[x3a x l]
   ·simp
theorem xj:∀l,(qu l).length=l.length
 | []=>rfl
 | x::l=>by simp[qu,x3a,xj l]
theorem qDa(x:Ev):∀b,mergeE [x] b=vF x b
 | []=>by simp[mergeE,vF]
 | y::b=>by
   rw[jC,vF,kC]
   split
   ·rw[qDa x b]
   ·rfl
theorem jA(x y:Ev)(b:List Ev):vF x (y::b)=if ltE y x then y::vF x b else x::y::b:=rfl
theorem Q3(x:Ev):∀(a b:List Ev),mergeE (vF x a) b=vF x (mergeE a b)
 | [],b=>by rw[kC,vF,qDa]
 | s::a,[]=>by rw[xI,xI]
 | s::a,t::b=>by
   rw[jA]
   by_cases d:ltE s x
   ·rw[if_pos d,jC,jC]
    by_cases c:ltE t s
    ·rw[if_pos c,if_pos c,jA,if_pos (by rw[wB] at *; omega)]
     have:=Q3 x (s::a) b
     rw[jA,if_pos d] at this
     rw[this]
    ·rw[if_neg c,if_neg c,jA,if_pos d,Q3 x a (t::b)]
   ·rw[if_neg d,jC]
    by_cases c:ltE t x
    ·have e:ltE t s=true:=by
      rw[Bool.not_eq_true,kO] at d
      rw[wB] at *; omega
     rw[if_pos c,jC,if_pos e,jA,if_pos c]
     have:=Q3 x (s::a) b
     rw[jA,if_neg d] at this
     rw[this]
    ·rw[if_neg c,jC]
     split
     ·rw[jA,if_neg c]
     ·rw[jA,if_neg d]
termination_by a b=>a.length+b.length
theorem Q4(b:List Ev):∀a,mergeE (qu a) (qu b)=qu (a++b)
 | []=>by rw[qu,kC,List.nil_append]
 | x::a=>by rw[qu,Q3,Q4 b a,List.cons_append,qu]
def Srt:List Ev->Prop
 | []=>True
 | x::l=>(∀y∈l,ltE y x=false)/\Srt l
theorem K2{x z:Ev}:∀ {l:List Ev},z∈vF x l↔z=x∨z∈l
 | []=>by simp[vF]
 | y::l=>by
   rw[jA]
   split
   ·simp only[zy,K2 (l:=l)]
    constructor<;>(rintro (h|h|h)<;>simp[h])
   ·simp
theorem YO(x:Ev):∀ {l:List Ev},Srt l->Srt (vF x l)
 | [],_=>⟨λy h=>(by cases h),trivial⟩
 | y::l,⟨b,c⟩=>by
   rw[jA]
   split
   ·rename_i h
    refine⟨λz a=>?_,YO x c⟩
    rcases K2.1 a with rfl|a
    ·rw[kO];rw[wB] at h;omega
    ·exact b z a
   ·rename_i h
    refine⟨λz a=>?_,b,c⟩
    rw[Bool.not_eq_true] at h
    rcases zy.1 a with rfl|a
    ·exact h
    ·have:=b z a
     rw[kO] at *; omega
theorem xY:∀l,Srt (qu l)
 | []=>trivial
 | x::l=>YO x (xY l)
theorem Xw{z:Ev}:∀ {l:List Ev},z∈qu l↔z∈l
 | []=>by simp[qu]
 | x::l=>by rw[qu,K2,Xw,zy]
theorem xm{a b:List Ev}:Srt (a++b)↔Srt a/\Srt b/\∀x∈a,∀y∈b,ltE y x=false:=by
 induction a with
 | nil=>simp[Srt]
 | cons x a i=>
   rw[List.cons_append,Srt,i,Srt]
   constructor
   ·rintro ⟨f,g,h,e⟩
    refine⟨⟨λy c=>f y (List.mem_append_left _ c),g⟩,h,λz d y c=>?_⟩
    rcases zy.1 d with rfl|d
    ·exact f y (List.mem_append_right _ c)
    ·exact e z d y c
   ·rintro ⟨⟨f,g⟩,h,e⟩
    refine⟨λy c=>?_,g,h,λz d y c=>e z (List.mem_cons_of_mem _ d) y c⟩
    rcases zI.1 c with c|c
    ·exact f y c
    ·exact e x List.mem_cons_self y c
theorem Z3a(a b:List Ev):(mergeE a b).length=a.length+b.length:=by
 induction a,b using mergeE.induct with
 | case1 b=>simp[mergeE]
 | case2 a h=>rw[xI];simp
 | case3 x a y b h c=>rw[jC,if_pos h];simp only[List.length_cons] at *; omega
 | case4 x a y b h c=>rw[jC,if_neg h];simp only[List.length_cons] at *; omega
theorem YP:∀(a b c:List Ev),(∀x∈a,∀y∈b,ltE y x=false)->mergeE a b=a++b
 | [],b,_,_=>by rw[kC,List.nil_append]
 | x::a,[],_,_=>by rw[xI,zM]
 | x::a,y::b,c,h=>by
   rw[jC,if_neg (by rw[h x List.mem_cons_self y List.mem_cons_self];simp),YP a (y::b) c λz d=>h z (List.mem_cons_of_mem _ d),List.cons_append]
theorem JX{a1 a2 b1 b2:List Ev}(f:∀x∈a1,∀y∈b2,ltE y x=false)(e:∀x∈a2,∀y∈b1,ltE y x=true):mergeE (a1++a2) (b1++b2)=mergeE a1 b1++mergeE a2 b2:=by
 induction a1,b1 using mergeE.induct with
 | case1 b=>
   rw[kC,List.nil_append]
   induction b with
   | nil=>rfl
   | cons y b c=>
     cases a2 with
     | nil=>rw[kC,kC]
     | cons x a=>
       rw[List.cons_append,jC,if_pos (e x List.mem_cons_self y List.mem_cons_self),c (λz d w g=>e z d w (List.mem_cons_of_mem _ g)),List.cons_append]
 | case2 a h=>
   rw[xI,List.nil_append]
   clear h e
   induction a with
   | nil=>rfl
   | cons x a c=>
     cases b2 with
     | nil=>rw[xI,xI]
     | cons y b=>
       rw[List.cons_append,jC,if_neg (by rw[f x List.mem_cons_self y List.mem_cons_self];simp),c (λz d=>f z (List.mem_cons_of_mem _ d)),List.cons_append]
 | case3 x a y b h c=>
   rw[List.cons_append,List.cons_append,jC,jC,if_pos h,if_pos h, <-List.cons_append,c f (λz d w g=>e z d w (List.mem_cons_of_mem _ g)),List.cons_append]
 | case4 x a y b h c=>
   rw[List.cons_append,List.cons_append,jC,jC,if_neg h,if_neg h, <-List.cons_append,c (λz d=>f z (List.mem_cons_of_mem _ d)) e,List.cons_append]
theorem YQ{a1 a2:List Ev}{x:Ev}(b:∀y∈a1,ltE x y=false)(a:∀y∈a2,ltE x y=true):mergeE (a1++a2) [x]=a1++x::a2:=by
 have:=JX (a1:=a1) (a2:=a2) (b1:=[x]) (b2:=[]) (by simp) (by simpa using a)
 rw[zM] at this
 rw[this,xI,YP a1 [x] [] (by simpa using b)]
 simp
theorem x4a{b1 b2:List Ev}{x:Ev}(b:∀y∈b1,ltE y x=true)(a:∀y∈b2,ltE y x=false):mergeE [x] (b1++b2)=b1++x::b2:=by
 have:=JX (a1:=[]) (a2:=[x]) (b1:=b1) (b2:=b2) (by simp) (by simpa using b)
 rw[List.nil_append] at this
 rw[this,kC,YP [x] b2 [] (by simpa using a)]
 simp
theorem Z4a{l:List Ev}{x:Ev}:qu (l++[x])=mergeE (qu l) [x]:=by rw[<-Q4,show qu [x]=[x] from rfl]
theorem x5a{a:List Ev}{x z:Ev}(h:Srt (a++[x]))(d:ltE z x=false):∀y∈a++[x],ltE z y=false:=by
 intro y c
 rcases zI.1 c with b|b
 ·have e:=(xm.1 h).2.2 y b x (by simp)
  rw[kO] at *; omega
 ·rw[zW.1 b];exact d
theorem Z5a{a:List Ev}{x z:Ev}(h:Srt (a++[x]))(d:ltE x z=true):∀y∈a++[x],ltE y z=true:=by
 intro y c
 rcases zI.1 c with b|b
 ·have e:=(xm.1 h).2.2 y b x (by simp)
  rw[kO] at *; rw[wB] at *; omega
 ·rw[zW.1 b];exact d
theorem x6a{a:List Ev}{x z:Ev}(h:Srt (x::a))(d:ltE x z=false):∀y∈x::a,ltE y z=false:=by
 intro y c
 rcases zy.1 c with rfl|b
 ·exact d
 ·have e:=h.1 y b
  rw[kO] at *; omega
theorem Z6a{a:List Ev}{x z:Ev}(h:Srt (x::a))(e:ltE z x=true):∀y∈x::a,ltE z y=true:=by
 intro y d
 rcases zy.1 d with rfl|b
 ·exact e
 ·have c:=h.1 y b
  rw[kO] at c;rw[wB] at *; omega
theorem VCa{a b c:List Ev}{x y:Ev}{i j:Nat}(hi:i=a.length)(d:j=a.length+1+b.length):((a++x::(b++y::c)).set i y).set j x=a++y::(b++x::c):=by
 subst hi d
 rw[zT _ _ (zp _),Nat.sub_self,List.set_cons_zero,zT _ _ (by omega),show a.length+1+b.length - a.length=b.length+1 by omega,List.set_cons_succ,zT _ _ (zp _),Nat.sub_self,List.set_cons_zero]
theorem Qy{a c:List Ev}{x:Ev}{i:Nat}(hi:i=a.length):(a++x::c)[i]? =some x:=by
 subst hi
 rw[zX (zp _),Nat.sub_self];rfl
def blkE(n:Nat)(l:List Ev):List Ev:=if h:l.length<=n∨n=0 then qu l else qu (l.take n)++blkE n (l.drop n)
termination_by l.length
decreasing_by simp only[List.length_drop];omega
theorem Xga(n:Nat)(l:List Ev):(blkE n l).length=l.length:=by
 induction l using blkE.induct n with
 | case1 l h=>rw[blkE,dif_pos h,xj]
 | case2 l h a=>rw[blkE,dif_neg h,zg,xj,a];simp only[zH,List.length_drop];omega
theorem Z9{n:Nat}{l:List Ev}(h:l.length<=n):blkE n l=qu l:=by rw[blkE,dif_pos (.inl h)]
theorem JY{n:Nat}{a l:List Ev}(b:a.length=n)(c:0<n):blkE n (a++l)=qu a++blkE n l:=by
 cases l with
 | nil=>rw[zM,Z9 (by omega),Z9 (by simp),qu,zM]
 | cons x l=>
   rw[blkE,dif_neg (by simp only[zg,List.length_cons];omega)]
   subst b
   rw[List.take_left,List.drop_left]
set_option maxRecDepth 100000
attribute [go_sem] Vba Vca ty3
abbrev jh(l:List Ev)(st:Nat):Ob:= .row 75 11 (l.map evC) st
theorem xn{l:List Ev}{i:Nat}{x:Ev}(h:l[i]? =some x):(l.map evC)[i]? =some (evC x):=by
 rw[zz,h];rfl
theorem K3:∀(q ns:List AV),q.length=ns.length->lay q 0 ns=some ns
 | [],[],_=>rfl
 | a::q,n::ns,h=>by
   simp only[lay]
   rw[K3 q ns (by simpa using h)]
   rfl
 | [],_::_,h=>by cases h
 | _::_,[],h=>by cases h
theorem W0{l:List Ev}{i j:Nat}(e:Ev)(b:j<l.length):∃q,((l.map evC).set i (evC e))[j]? =some q/\∀ns:List AV,ns.length=11->lay q 0 ns=some ns:=by
 by_cases a:i=j
 ·subst a
  exact⟨evC e,zo (by simpa using b),λns h=>K3 _ _ h.symm⟩
 ·rw[zc a]
  exact⟨_,xn (zi b),λns h=>K3 _ _ h.symm⟩
theorem VK{a b c:List Ev}{x y:Ev}{i j:Nat}{l:List Ev}(e:l=a++x::(b++y::c))(hi:i=a.length)(d:j=a.length+1+b.length):((l.map evC).set i (evC y)).set j (evC x)=(a++y::(b++x::c)).map evC:=by
 rw[<-VCa hi d,e,List.map_set,List.map_set]
theorem YR{a b c:List Ev}{x y:Ev}{i j:Nat}{l:List Ev}(e:l=a++x::(b++y::c))(hi:i=a.length)(d:j=a.length+1+b.length):((l.map evC).set j (evC x)).set i (evC y)=(a++y::(b++x::c)).map evC:=by
 rw[List.set_comm _ _ (by omega),VK e hi d]
theorem Qk{a b:Nat}(h:a+b<4611686018427387904):wr ((a:Int)+(b:Int))=((a+b:Nat):Int):=by rw[qq (by unfold Fit;omega)];rfl
theorem y9{a b:Nat}(h:b<=a)(c:a<4611686018427387904):wr ((a:Int) - (b:Int))=((a - b:Nat):Int):=by rw[qq (by unfold Fit;omega)];omega
theorem K4{a:Nat}(h:1<=a)(c:a<4611686018427387904):wr ((a:Int) - 1)=((a - 1:Nat):Int):=y9 (b:=1) h c
theorem qn{k m:Nat}(h:k<9223372036854775807)(a:m=k+1):AV.v (.int .i64 (IntKind.wrap .i64 ((k:Int)+1)))=i64 (m:Int):=by
 rw[show IntKind.wrap .i64 ((k:Int)+1)=((k+1:Nat):Int) from xE h,a]
theorem dlt{a b:Nat}(e:decide ((a:Int)<(b:Int))=true):a<b:=by simpa using e
theorem xr{a b:Nat}(e:decide ((a:Int)<(b:Int))=false):b<=a:=by simpa using e
theorem yqa{l U V:List Ev}{x:Ev}(h:qu l=U++V)(a:∀y∈V,ltE x y=true)(b:∀y∈U,ltE x y=false):qu (l++[x])=U++x::V:=by
 rw[Z4a,h,YQ b a]
theorem Y3a(h:List Ob)(id st a b n:Nat)(P X M Y Q:List Ev)(f:AV)(hi:h[id]? =some (jh (P++(X++(M++(Y++Q)))) st))(V:a=P.length)(R:b=P.length+X.length+M.length)(u:X.length=n)(z:Y.length=n)(I:P.length+X.length+M.length+Y.length<1099511627776):
  ACalls Tryz.prog 299 [.tl id st,i64 a,i64 b,i64 n,f] h λr h'=>r= .tup []/\h'=h.set id (jh (P++(Y++(M++(X++Q)))) st):=by
 refine zj Tryz.f299 [] 38 rfl rfl rfl rfl rfl rfl (by decide) (⟨_,_,⟨rfl,rfl⟩,qj hi rfl⟩) λB=>?_
 simp only[go_sem]
 refine zO (by decide) (λm T h'=>∃c s d t,X=c++s/\Y=d++t/\c.length=d.length/\h'=h.set id (jh (P++(d++(s++(M++(c++(t++Q)))))) st)/\T 0= .tl id st/\T 1=i64 a/\T 2=i64 b/\T 3=i64 n/\T 10=i64 c.length/\m=s.length) n
  ⟨[],X,[],Y,rfl,rfl,rfl,by rw[List.nil_append,List.nil_append,qS hi],by simp only[go_sem],by simp only[go_sem],by simp only[go_sem],by simp only[go_sem],by(simp only[go_sem]<;>rfl),u.symm⟩ ?_
 rintro m T h' ⟨c,s,d,t,rfl,rfl,A,rfl,t0,t1,t2,t3,t10,rfl⟩
 simp only[go_sem,t10,t3]
 refine ways (λe=>?_) (λe=>?_)
 ·have w:c.length<n:=by simpa using e
  cases s with
  | nil=>simp at u;omega
  | cons x k=>
  cases t with
  | nil=>simp at z;omega
  | cons y p=>
  simp only[zg,List.length_cons] at u z R I
  have U:∀o,(h.set id o)[id]? =some o:=λo=>zm hi
  obtain⟨l,v⟩:∃l,l=P++(d++(x::k++(M++(c++(y::p++Q))))):=⟨_,rfl⟩
  have g:l=(P++d)++x::((k++(M++c))++y::(p++Q)):=by rw[v];simp
  have C:l.length=P.length+d.length+1+k.length+M.length+c.length+1+p.length+Q.length:=by rw[g];simp;omega
  have D:a+c.length=(P++d).length:=by simp;omega
  have E:b+c.length=(P++d).length+1+(k++(M++c)).length:=by simp;omega
  have N:(l.map evC)[a+c.length]? =some (evC x):=xn (by rw[g];exact Qy D)
  have K:(l.map evC)[b+c.length]? =some (evC y):=xn (by
   rw[g,show(P++d)++x::((k++(M++c))++y::(p++Q))=((P++d)++x::(k++(M++c)))++y::(p++Q) by simp]
   exact Qy (by rw[E];simp;omega))
  have F:((a+c.length:Nat):Int)<((l.length:Nat):Int):=by omega
  have L:((b+c.length:Nat):Int)<((l.length:Nat):Int):=by omega
  have J:=Qk (a:=a) (b:=c.length) (by omega)
  have G:=Qk (a:=b) (b:=c.length) (by omega)
  obtain⟨q,S,O⟩:=W0 (l:=l) (i:=a+c.length) (j:=b+c.length) y (by omega)
  have H:=VK g D E
  rw[<-v]
  simp only[go_sem]
  refine zQ rfl [] 0 [(0,0,[]),(1,0,[]),(2,0,[]),(3,0,[]),(4,0,[]),(5,0,[]),(6,0,[]),(7,0,[]),(8,0,[]),(9,0,[]),(10,0,[]),(11,0,[]),(14,0,[]),(15,0,[]),(16,0,[]),(17,0,[]),(12,0,[]),(13,0,[]),(18,0,[]),(19,0,[]),(20,0,[]),(21,0,[]),(22,0,[]),(23,0,[])] rfl (by decide) (by decide) ?_
  simp only[go_sem,t1,t2,t10,t0,U,N,K,S,O,F,L,J,G,zb,Int.toNat_natCast,zf,qd]
  refine⟨k.length,by simp,c++[x],k,d++[y],p,by simp,by simp,by simp[A],?_,t3,?_,rfl⟩
  ·rw[H];exact congrArg (λl=>h.set id (jh l st)) (by simp)
  ·exact qn (by omega) (by simp)
 ·have w:¬ c.length<n:=by simpa using e
  have:s=[]:=zF (by simp at u;omega)
  subst this
  have:t=[]:=zF (by simp at z u;omega)
  subst this
  simp only[go_sem]
  exact⟨.tup [],by simp only[go_sem],.inl ⟨rfl,by simp⟩⟩
theorem xPb(h:List Ob)(id st a m b:Nat)(P A D Q:List Ev)(f:AV)(hi:h[id]? =some (jh (P++(A++(D++Q))) st))(W:a=P.length)(U:m=P.length+A.length)(X:b=P.length+A.length+D.length)(S:0<A.length)(hB:0<D.length)(J:P.length+A.length+D.length<1099511627776):
  ACalls Tryz.prog 283 [.tl id st,i64 a,i64 m,i64 b,f] h λr h'=>r= .tup []/\h'=h.set id (jh (P++(D++(A++Q))) st):=by
 have O:wr ((m:Int) - (a:Int))=(A.length:Int):=by rw[y9 (by omega) (by omega)];omega
 have M:wr ((b:Int) - (m:Int))=(D.length:Int):=by rw[y9 (by omega) (by omega)];omega
 refine zj Tryz.f283 [] 58 rfl rfl rfl rfl rfl rfl (by decide) (⟨_,_,⟨rfl,rfl⟩,qj hi rfl⟩) λB=>?_
 simp only[go_sem,O,M]
 refine zO (by decide) (λn T h'=>∃L c d R,P++(D++(A++Q))=L++(d++(c++R))/\L.length+c.length=m/\0<c.length/\0<d.length/\L.length+c.length+d.length<1099511627776/\h'=h.set id (jh (L++(c++(d++R))) st)/\T 0= .tl id st/\T 2=i64 m/\T 4=f/\T 10=i64 c.length/\T 11=i64 d.length/\n=c.length+d.length) (A.length+D.length)
  ⟨P,A,D,Q,rfl,U.symm,S,hB,J,by rw[qS hi],by simp only[go_sem],by simp only[go_sem],by simp only[go_sem],by simp only[go_sem],by simp only[go_sem],rfl⟩ ?_
 rintro n T h' ⟨L,c,d,R,heq,N,K,V,I,rfl,t0,t2,t4,t10,g,rfl⟩
 have F:∀o,(h.set id o)[id]? =some o:=λo=>zm hi
 have C:wr ((m:Int) - (c.length:Int))=((m - c.length:Nat):Int):=y9 (by omega) (by omega)
 simp only[go_sem,t10,g]
 refine ways (λe=>?_) (λe=>?_)
 ·simp only[go_sem,t10,g]
  have t:c.length≠d.length:=λk=>by simp[k] at e
  refine ways (λE=>?_) (λE=>?_)
  ·have z:d.length<c.length:=by simpa using E
   obtain⟨l,s,i,w⟩:∃l s,c=l++s/\l.length=d.length:=⟨c.take d.length,c.drop d.length,(qQ _ _).symm,by simp;omega⟩
   have y:wr ((c.length:Int) - (d.length:Int))=((s.length:Nat):Int):=by
    rw[y9 (by omega) (by omega),i,zg];omega
   have u:c.length=l.length+s.length:=by rw[i,zg]
   simp only[go_sem,t0,t2,t4,t10,g,C]
   refine zh (Y3a _ id st _ _ _ L l s d R f (by rw[F,i];simp) (by omega) (by omega) w rfl (by omega)) ?_
   rintro _ G ⟨rfl,v⟩
   subst v
   simp only[go_sem,t0,t2,t4,t10,g,y,qd]
   refine⟨s.length+l.length,by omega,L++d,s,l,R,by rw[heq,i];simp,by simp;omega,by omega,by omega,by simp;omega,by simp,rfl,by rw[w],rfl⟩
  ·have z:c.length<d.length:=by
    have:¬ d.length<c.length:=by simpa using E
    omega
   obtain⟨j,p,q,x⟩:∃j p,d=j++p/\p.length=c.length:=⟨d.take (d.length - c.length),d.drop (d.length - c.length),(qQ _ _).symm,by simp;omega⟩
   have u:d.length=j.length+p.length:=by rw[q,zg]
   have y:wr ((d.length:Int) - (c.length:Int))=((j.length:Nat):Int):=by
    rw[y9 (by omega) (by omega)];omega
   have H:wr (wr ((m:Int)+(d.length:Int)) - (c.length:Int))=((m+d.length - c.length:Nat):Int):=by
    rw[Qk (by omega),y9 (by omega) (by omega)]
   simp only[go_sem,t0,t2,t4,t10,g,C,H]
   refine zh (Y3a _ id st _ _ _ L c j p R f (by rw[F,q];simp) (by omega) (by omega) rfl x (by omega)) ?_
   rintro _ G ⟨rfl,v⟩
   subst v
   simp only[go_sem,t0,t2,t4,t10,g,y,qd]
   refine⟨p.length+j.length,by omega,L,p,j,c++R,by rw[heq,q];simp,by omega,by omega,by omega,by omega,by simp,by rw[x],rfl,rfl⟩
 ·have t:c.length=d.length:=by
   have:(c.length:Int)=d.length:=by simpa using e
   omega
  simp only[go_sem,t0,t2,t4,t10,g,C]
  refine zh (Y3a _ id st _ _ _ L c [] d R f (by rw[F];simp) (by omega) (by simp only[List.length_nil];omega) rfl t.symm (by simp only[List.length_nil];omega)) ?_
  rintro _ G ⟨rfl,v⟩
  subst v
  simp only[go_sem,qd]
  exact⟨.tup [],by simp only[go_sem],.inl ⟨rfl,by rw[heq]⟩⟩
theorem q2b(h:List Ob)(id st a b:Nat)(P S Q:List Ev)(hi:h[id]? =some (jh (P++(S++Q)) st))(ha:a=P.length)(D:b=P.length+S.length)(hl:(P++(S++Q)).length<1099511627776):
  ACalls Tryz.prog 237 [.tl id st,i64 a,i64 b,.fn (.func 111) [] []] h λr h'=>r= .tup []/\h'=h.set id (jh (P++(qu S++Q)) st):=by
 have Y:∀o,(h.set id o)[id]? =some o:=λo=>zm hi
 simp only[zg] at hl
 have w1:wr ((a:Int)+1)=((a+1:Nat):Int):=xE (by omega)
 refine zj Tryz.f237 [] 53 rfl rfl rfl rfl rfl rfl (by decide) (⟨_,_,⟨rfl,rfl⟩,qj hi rfl⟩) λB=>?_
 simp only[go_sem,w1]
 refine zO (by decide) (λn T h'=>∃d z,S=d++z/\h'=h.set id (jh (P++(qu d++(z++Q))) st)/\T 0= .tl id st/\T 1=i64 a/\T 2=i64 b/\T 3= .fn (.func 111) [] []/\T 8=i64 (a+d.length+(if S=[] then 1 else 0):Nat)/\n=z.length) (S.length - 1) ?_ ?_
 ·cases S with
  | nil=>exact⟨[],[],rfl,by rw[qu,List.nil_append,qS hi],by simp only[go_sem],by simp only[go_sem],by simp only[go_sem],by simp only[go_sem],by simp only[go_sem],rfl⟩
  | cons x S=>exact⟨[x],S,rfl,(qS hi).symm,by simp only[go_sem],by simp only[go_sem],by simp only[go_sem],by simp only[go_sem],by simp only[go_sem],rfl⟩
 rintro n T h' ⟨d,z,s,rfl,t0,t1,t2,t3,t8,rfl⟩
 simp only[go_sem,t8,t2]
 refine ways (λe=>?_) (λe=>?_)
 ·have t:a+d.length+(if S=[] then 1 else 0)<b:=dlt e
  have c:S≠[]:=λk=>by rw[k] at t D;simp at t D;omega
  rw[if_neg c] at t8 t
  cases z with
  | nil=>rw[s] at D;simp at D;omega
  | cons x g=>
  have ζ:S.length=d.length+1+g.length:=by rw[s];simp;omega
  have E:=xj d
  simp only[go_sem,t8]
  refine zO (by decide) (λn T h'=>∃U V,qu d=U++V/\(∀y∈V,ltE x y=true)/\h'=h.set id (jh (P++(U++(x::(V++(g++Q))))) st)/\T 0= .tl id st/\T 1=i64 a/\T 2=i64 b/\T 3= .fn (.func 111) [] []/\T 8=i64 (a+d.length:Nat)/\T 9=i64 (a+U.length:Nat)/\n=U.length) (qu d).length
   ⟨qu d,[],by simp,by simp,by simp,by simp only[go_sem,t0],by simp only[go_sem,t1],by simp only[go_sem,t2],by simp only[go_sem,t3],by simp only[go_sem,t8,c],by simp only[go_sem,t8,c,E],rfl⟩ ?_
  rintro n T h' ⟨U,V,f,G,rfl,t0,t1,t2,t3,t8,t9,rfl⟩
  have A:d.length=U.length+V.length:=by rw[<-E,f,zg]
  have C:=qn (k:=a+d.length) (m:=a+(d++[x]).length) (by omega) (by simp;omega)
  rcases List.eq_nil_or_concat U with rfl|⟨U,u,rfl⟩
  ·simp only[go_sem]
   refine zQ rfl [] 0 [(0,0,[]),(1,0,[]),(2,0,[]),(3,0,[]),(4,0,[]),(5,0,[]),(6,0,[]),(9,0,[]),(10,0,[]),(11,0,[]),(7,0,[]),(8,0,[]),(12,0,[]),(13,0,[]),(14,0,[]),(15,0,[]),(16,0,[])] rfl (by decide) (by decide) ?_
   have t9:T 9=i64 (a:Int):=t9
   simp only[go_sem,t9,t1,t8,gt_iff_lt,Int.lt_irrefl,decide_false,beq_self_eq_true,Bool.false_eq_true,Bool.true_eq_false]
   refine⟨g.length,by simp,d++[x],g,by rw[s];simp,?_,t0,t2,t3,?_,rfl⟩
   ·rw[yqa f G (by simp)];rfl
   ·rw[if_neg c];exact C
  ·rw[List.concat_eq_append] at*
   simp only[zg,List.length_cons,List.length_nil] at A t9
   obtain⟨l,w⟩:∃l,l=P++(U++[u]++(x::(V++(g++Q)))):=⟨_,rfl⟩
   have p:l=(P++U)++u::([]++x::(V++(g++Q))):=by rw[w];simp
   have K:l.length=P.length+U.length+2+V.length+g.length+Q.length:=by rw[p];simp;omega
   have N:a+U.length=(P++U).length:=by simp;omega
   have W:a+(U.length+1)=(P++U).length+1+([]:List Ev).length:=by simp;omega
   have X:(l.map evC)[a+U.length]? =some (evC u):=xn (by rw[p];exact Qy N)
   have O:(l.map evC)[a+(U.length+1)]? =some (evC x):=xn (by
    rw[p,show(P++U)++u::([]++x::(V++(g++Q)))=((P++U)++[u])++x::(V++(g++Q)) by simp]
    exact Qy (by rw[W];simp;omega))
   have L:((a+U.length:Nat):Int)<((l.length:Nat):Int):=by omega
   have R:((a+(U.length+1):Nat):Int)<((l.length:Nat):Int):=by omega
   have f1:((a:Nat):Int)<((a+(U.length+1):Nat):Int):=by omega
   have M:wr (((a+(U.length+1):Nat):Int) - 1)=((a+U.length:Nat):Int):=by
    rw[K4 (by omega) (by omega)];omega
   obtain⟨q,q1,q2⟩:=W0 (l:=l) (i:=a+(U.length+1)) (j:=a+U.length) u (by omega)
   have sw:=YR p N W
   rw[<-w]
   simp only[go_sem]
   refine zQ rfl [] 0 [(0,0,[]),(1,0,[]),(2,0,[]),(3,0,[]),(4,0,[]),(5,0,[]),(6,0,[]),(9,0,[]),(10,0,[]),(11,0,[]),(7,0,[]),(8,0,[]),(12,0,[]),(13,0,[]),(14,0,[]),(15,0,[]),(16,0,[])] rfl (by decide) (by decide) ?_
   simp only[go_sem,t9,t1,t0,t3,gt_iff_lt,f1,decide_true,Y,X,O,L,R,M,zb,Int.toNat_natCast,zf,beq_self_eq_true,Bool.false_eq_true,Bool.true_eq_false]
   refine zh (c89 x u _) ?_
   rintro _ h1 ⟨rfl,Z⟩
   subst Z
   simp only[go_sem]
   refine ways (λv=>?_) (λv=>?_)
   ·have v:ltE x u=true:=v
    simp only[go_sem]
    refine zQ rfl [] 0 [(0,0,[]),(1,0,[]),(2,0,[]),(3,0,[]),(4,0,[]),(5,0,[]),(6,0,[]),(7,0,[]),(10,0,[]),(11,0,[]),(8,0,[]),(9,0,[]),(12,0,[]),(13,0,[]),(14,0,[]),(15,0,[]),(16,0,[]),(17,0,[])] rfl (by decide) (by decide) ?_
    simp only[go_sem,t9,t1,t0,t3,Y,X,O,q1,q2,L,R,M,zb,Int.toNat_natCast,zf,qd]
    refine⟨U.length,by simp,U,u::V,by rw[f];simp,λy I=>?_,?_,t2,t8,rfl,rfl⟩
    ·rcases zy.1 I with rfl|I
     ·exact v
     ·exact G y I
    ·rw[sw];exact congrArg (λl=>h.set id (jh l st)) (by simp)
   ·have v:ltE x u=false:=v
    simp only[go_sem,t8]
    have J:Srt ((U++[u])++V):=by rw[<-f];exact xY _
    refine⟨g.length,by simp,d++[x],g,by rw[s];simp,?_,t0,t1,t2,t3,?_,rfl⟩
    ·rw[yqa f G (x5a (xm.1 J).1 v),w];exact congrArg (λl=>h.set id (jh l st)) (by simp)
    ·rw[if_neg c];exact C
 ·have F:=xr e
  have H:z=[]:=by
   apply zF
   rw[s,zg] at D
   by_cases c:S=[]
   ·rw[s] at c;simp at c;simp[c]
   ·rw[if_neg c] at F;omega
  subst H
  rw[zM] at s
  subst s
  simp only[go_sem]
  exact⟨.tup [],by simp only[go_sem],.inl ⟨rfl,by simp⟩⟩
