import Derived.Test.YtigdlmpjijhpaaaGreatKA
import Derived.Test.YtigdlmpjijhpaaaGreatK13
set_option linter.all false
namespace Go.Proofs.YtigdlmpjijhpaaaGreat.Ax
open Go Go.Proofs
instance:Inhabited Ev:=⟨⟨0,0,0,0,0,0,0,0,0,0,0⟩⟩
def ltE(a b:Ev):Bool:=decide (Q8a a b<0)
theorem vH(a b:Ev):ltE a b=true↔(a.at_<b.at_∨(a.at_=b.at_/\a.id<b.id)):=by
 simp only[ltE,decide_eq_true_eq]
 unfold Q8a zSa orI orI orI
 by_cases c:a.at_<b.at_
 ·rw[if_pos c];simp[c]
 ·rw[if_neg c]
  by_cases d:a.at_>b.at_
  ·rw[if_pos d];simp;omega
  ·rw[if_neg d]
   by_cases e:a.id<b.id
   ·rw[if_pos e];simp;omega
   ·rw[if_neg e]
    split<;>simp<;>omega
theorem xT(a b:Ev):ltE a b=false↔¬ (a.at_<b.at_∨(a.at_=b.at_/\a.id<b.id)):=by
 rw[<-vH,Bool.not_eq_true]
def mergeE:List Ev->List Ev->List Ev
 | [],b=>b
 | a,[]=>a
 | x::a,y::b=>if ltE y x then y::mergeE (x::a) b else x::mergeE a (y::b)
termination_by a b=>a.length+b.length
theorem xK(b:List Ev):mergeE [] b=b:=by rw[mergeE]
theorem xi(a:List Ev):mergeE a []=a:=by cases a<;>simp[mergeE]
theorem jn(x y:Ev)(a b:List Ev):mergeE (x::a) (y::b)=if ltE y x then y::mergeE (x::a) b else x::mergeE a (y::b):=by rw[mergeE]
def wl(x:Ev):List Ev->List Ev
 | []=>[x]
 | y::b=>if ltE y x then y::wl x b else x::y::b
def qj:List Ev->List Ev
 | []=>[]
 | x::l=>wl x (qj l)
theorem qUa(x:Ev):∀l,(wl x l).length=l.length+1
 | []=>rfl
 | y::l=>by
   simp only[wl]
   split
   ·simp[qUa x l]
   ·simp
theorem jQ:∀l,(qj l).length=l.length
 | []=>rfl
 | x::l=>by simp[qj,qUa,jQ l]
theorem YL(x:Ev):∀b,mergeE [x] b=wl x b
 | []=>by simp[mergeE,wl]
 | y::b=>by
   rw[jn,wl,xK]
   split
   ·rw[YL x b]
   ·rfl
theorem jq(x y:Ev)(b:List Ev):wl x (y::b)=if ltE y x then y::wl x b else x::y::b:=rfl
theorem ZT(x:Ev):∀(a b:List Ev),mergeE (wl x a) b=wl x (mergeE a b)
 | [],b=>by rw[xK,wl,YL]
 | s::a,[]=>by rw[xi,xi]
 | s::a,t::b=>by
   rw[jq]
   by_cases d:ltE s x
   ·rw[if_pos d,jn,jn]
    by_cases c:ltE t s
    ·rw[if_pos c,if_pos c,jq,if_pos (by rw[vH] at *; omega)]
     have:=ZT x (s::a) b
     rw[jq,if_pos d] at this
     rw[this]
    ·rw[if_neg c,if_neg c,jq,if_pos d,ZT x a (t::b)]
   ·rw[if_neg d,jn]
    by_cases c:ltE t x
    ·have e:ltE t s=true:=by
      rw[Bool.not_eq_true,xT] at d
      rw[vH] at *; omega
     rw[if_pos c,jn,if_pos e,jq,if_pos c]
     have:=ZT x (s::a) b
     rw[jq,if_neg d] at this
     rw[this]
    ·rw[if_neg c,jn]
     split
     ·rw[jq,if_neg c]
     ·rw[jq,if_neg d]
termination_by a b=>a.length+b.length
theorem ZU(b:List Ev):∀a,mergeE (qj a) (qj b)=qj (a++b)
 | []=>by rw[qj,xK,List.nil_append]
 | x::a=>by rw[qj,ZT,ZU b a,List.cons_append,qj]
def Srt:List Ev->Prop
 | []=>True
 | x::l=>(∀y∈l,ltE y x=false)/\Srt l
theorem V2{x z:Ev}:∀ {l:List Ev},z∈wl x l↔z=x∨z∈l
 | []=>by simp[wl]
 | y::l=>by
   rw[jq]
   split
   ·simp only[zH,V2 (l:=l)]
    constructor<;>(rintro (h|h|h)<;>simp[h])
   ·simp
theorem qVa(x:Ev):∀ {l:List Ev},Srt l->Srt (wl x l)
 | [],_=>⟨λy h=>(by cases h),trivial⟩
 | y::l,⟨b,c⟩=>by
   rw[jq]
   split
   ·rename_i h
    refine⟨λz a=>?_,qVa x c⟩
    rcases V2.1 a with rfl|a
    ·rw[xT];rw[vH] at h;omega
    ·exact b z a
   ·rename_i h
    refine⟨λz a=>?_,b,c⟩
    rw[Bool.not_eq_true] at h
    rcases zH.1 a with rfl|a
    ·exact h
    ·have:=b z a
     rw[xT] at *; omega
theorem vl:∀l,Srt (qj l)
 | []=>trivial
 | x::l=>qVa x (vl l)
theorem X9{z:Ev}:∀ {l:List Ev},z∈qj l↔z∈l
 | []=>by simp[qj]
 | x::l=>by rw[qj,V2,X9,zH]
theorem xz{a b:List Ev}:Srt (a++b)↔Srt a/\Srt b/\∀x∈a,∀y∈b,ltE y x=false:=by
 induction a with
 | nil=>simp[Srt]
 | cons x a i=>
   rw[List.cons_append,Srt,i,Srt]
   constructor
   ·rintro ⟨e,g,h,f⟩
    refine⟨⟨λy c=>e y (List.mem_append_left _ c),g⟩,h,λz d y c=>?_⟩
    rcases zH.1 d with rfl|d
    ·exact e y (List.mem_append_right _ c)
    ·exact f z d y c
   ·rintro ⟨⟨e,g⟩,h,f⟩
    refine⟨λy c=>?_,g,h,λz d y c=>f z (List.mem_cons_of_mem _ d) y c⟩
    rcases zK.1 c with c|c
    ·exact e y c
    ·exact f x List.mem_cons_self y c
theorem wla(a b:List Ev):(mergeE a b).length=a.length+b.length:=by
 induction a,b using mergeE.induct with
 | case1 b=>simp[mergeE]
 | case2 a h=>rw[xi];simp
 | case3 x a y b h c=>rw[jn,if_pos h];simp only[List.length_cons] at *; omega
 | case4 x a y b h c=>rw[jn,if_neg h];simp only[List.length_cons] at *; omega
theorem V3:∀(a b c:List Ev),(∀x∈a,∀y∈b,ltE y x=false)->mergeE a b=a++b
 | [],b,_,_=>by rw[xK,List.nil_append]
 | x::a,[],_,_=>by rw[xi,zU]
 | x::a,y::b,c,h=>by
   rw[jn,if_neg (by rw[h x List.mem_cons_self y List.mem_cons_self];simp),V3 a (y::b) c λz d=>h z (List.mem_cons_of_mem _ d),List.cons_append]
theorem QE{a1 a2 b1 b2:List Ev}(f:∀x∈a1,∀y∈b2,ltE y x=false)(e:∀x∈a2,∀y∈b1,ltE y x=true):mergeE (a1++a2) (b1++b2)=mergeE a1 b1++mergeE a2 b2:=by
 induction a1,b1 using mergeE.induct with
 | case1 b=>
   rw[xK,List.nil_append]
   induction b with
   | nil=>rfl
   | cons y b c=>
     cases a2 with
     | nil=>rw[xK,xK]
     | cons x a=>
       rw[List.cons_append,jn,if_pos (e x List.mem_cons_self y List.mem_cons_self),c (λz d w g=>e z d w (List.mem_cons_of_mem _ g)),List.cons_append]
 | case2 a h=>
   rw[xi,List.nil_append]
   clear h e
   induction a with
   | nil=>rfl
   | cons x a c=>
     cases b2 with
     | nil=>rw[xi,xi]
     | cons y b=>
       rw[List.cons_append,jn,if_neg (by rw[f x List.mem_cons_self y List.mem_cons_self];simp),c (λz d=>f z (List.mem_cons_of_mem _ d)),List.cons_append]
 | case3 x a y b h c=>
   rw[List.cons_append,List.cons_append,jn,jn,if_pos h,if_pos h, <-List.cons_append,c f (λz d w g=>e z d w (List.mem_cons_of_mem _ g)),List.cons_append]
 | case4 x a y b h c=>
   rw[List.cons_append,List.cons_append,jn,jn,if_neg h,if_neg h, <-List.cons_append,c (λz d=>f z (List.mem_cons_of_mem _ d)) e,List.cons_append]
theorem V4{a1 a2:List Ev}{x:Ev}(b:∀y∈a1,ltE x y=false)(a:∀y∈a2,ltE x y=true):mergeE (a1++a2) [x]=a1++x::a2:=by
 have:=QE (a1:=a1) (a2:=a2) (b1:=[x]) (b2:=[]) (by simp) (by simpa using a)
 rw[zU] at this
 rw[this,xi,V3 a1 [x] [] (by simpa using b)]
 simp
theorem qWa{b1 b2:List Ev}{x:Ev}(b:∀y∈b1,ltE y x=true)(a:∀y∈b2,ltE y x=false):mergeE [x] (b1++b2)=b1++x::b2:=by
 have:=QE (a1:=[]) (a2:=[x]) (b1:=b1) (b2:=b2) (by simp) (by simpa using b)
 rw[List.nil_append] at this
 rw[this,xK,V3 [x] b2 [] (by simpa using a)]
 simp
theorem wma{l:List Ev}{x:Ev}:qj (l++[x])=mergeE (qj l) [x]:=by rw[<-ZU,show qj [x]=[x] from rfl]
theorem qXa{a:List Ev}{x z:Ev}(h:Srt (a++[x]))(d:ltE z x=false):∀y∈a++[x],ltE z y=false:=by
 intro y c
 rcases zK.1 c with b|b
 ·have e:=(xz.1 h).2.2 y b x (by simp)
  rw[xT] at *; omega
 ·rw[zJ.1 b];exact d
theorem wna{a:List Ev}{x z:Ev}(h:Srt (a++[x]))(d:ltE x z=true):∀y∈a++[x],ltE y z=true:=by
 intro y c
 rcases zK.1 c with b|b
 ·have e:=(xz.1 h).2.2 y b x (by simp)
  rw[xT] at *; rw[vH] at *; omega
 ·rw[zJ.1 b];exact d
theorem qYa{a:List Ev}{x z:Ev}(h:Srt (x::a))(d:ltE x z=false):∀y∈x::a,ltE y z=false:=by
 intro y c
 rcases zH.1 c with rfl|b
 ·exact d
 ·have e:=h.1 y b
  rw[xT] at *; omega
theorem woa{a:List Ev}{x z:Ev}(h:Srt (x::a))(e:ltE z x=true):∀y∈x::a,ltE z y=true:=by
 intro y d
 rcases zH.1 d with rfl|b
 ·exact e
 ·have c:=h.1 y b
  rw[xT] at c;rw[vH] at *; omega
theorem Q9a{a b c:List Ev}{x y:Ev}{i j:Nat}(hi:i=a.length)(d:j=a.length+1+b.length):((a++x::(b++y::c)).set i y).set j x=a++y::(b++x::c):=by
 subst hi d
 rw[zR _ _ (zo _),Nat.sub_self,List.set_cons_zero,zR _ _ (by omega),show a.length+1+b.length - a.length=b.length+1 by omega,List.set_cons_succ,zR _ _ (zo _),Nat.sub_self,List.set_cons_zero]
theorem Zv{a c:List Ev}{x:Ev}{i:Nat}(hi:i=a.length):(a++x::c)[i]? =some x:=by
 subst hi
 rw[zI (zo _),Nat.sub_self];rfl
def blkE(n:Nat)(l:List Ev):List Ev:=if h:l.length<=n∨n=0 then qj l else qj (l.take n)++blkE n (l.drop n)
termination_by l.length
decreasing_by simp only[List.length_drop];omega
theorem Zfa(n:Nat)(l:List Ev):(blkE n l).length=l.length:=by
 induction l using blkE.induct n with
 | case1 l h=>rw[blkE,dif_pos h,jQ]
 | case2 l h a=>rw[blkE,dif_neg h,ze,jQ,a];simp only[zX,List.length_drop];omega
theorem Zc{n:Nat}{l:List Ev}(h:l.length<=n):blkE n l=qj l:=by rw[blkE,dif_pos (.inl h)]
theorem QF{n:Nat}{a l:List Ev}(b:a.length=n)(c:0<n):blkE n (a++l)=qj a++blkE n l:=by
 cases l with
 | nil=>rw[zU,Zc (by omega),Zc (by simp),qj,zU]
 | cons x l=>
   rw[blkE,dif_neg (by simp only[ze,List.length_cons];omega)]
   subst b
   rw[List.take_left,List.drop_left]
set_option maxRecDepth 100000
attribute [go_sem] Q4a Q5a ty3
abbrev ja(l:List Ev)(st:Nat):Ob:= .row 75 11 (l.map evC) st
theorem jR{l:List Ev}{i:Nat}{x:Ev}(h:l[i]? =some x):(l.map evC)[i]? =some (evC x):=by
 rw[zr,h];rfl
theorem V5:∀(q ns:List AV),q.length=ns.length->lay q 0 ns=some ns
 | [],[],_=>rfl
 | a::q,n::ns,h=>by
   simp only[lay]
   rw[V5 q ns (by simpa using h)]
   rfl
 | [],_::_,h=>by cases h
 | _::_,[],h=>by cases h
theorem Vd{l:List Ev}{i j:Nat}(e:Ev)(b:j<l.length):∃q,((l.map evC).set i (evC e))[j]? =some q/\∀ns:List AV,ns.length=11->lay q 0 ns=some ns:=by
 by_cases a:i=j
 ·subst a
  exact⟨evC e,zm (by simpa using b),λns h=>V5 _ _ h.symm⟩
 ·rw[zc a]
  exact⟨_,jR (zh b),λns h=>V5 _ _ h.symm⟩
theorem Ka{a b c:List Ev}{x y:Ev}{i j:Nat}{l:List Ev}(d:l=a++x::(b++y::c))(hi:i=a.length)(e:j=a.length+1+b.length):((l.map evC).set i (evC y)).set j (evC x)=(a++y::(b++x::c)).map evC:=by
 rw[<-Q9a hi e,d,List.map_set,List.map_set]
theorem V6{a b c:List Ev}{x y:Ev}{i j:Nat}{l:List Ev}(d:l=a++x::(b++y::c))(hi:i=a.length)(e:j=a.length+1+b.length):((l.map evC).set j (evC x)).set i (evC y)=(a++y::(b++x::c)).map evC:=by
 rw[List.set_comm _ _ (by omega),Ka d hi e]
theorem Zl{a b:Nat}(h:a+b<4611686018427387904):wr ((a:Int)+(b:Int))=((a+b:Nat):Int):=by rw[qb (by unfold Fit;omega)];rfl
theorem wV{a b:Nat}(h:b<=a)(c:a<4611686018427387904):wr ((a:Int) - (b:Int))=((a - b:Nat):Int):=by rw[qb (by unfold Fit;omega)];omega
theorem Xy{a:Nat}(h:1<=a)(c:a<4611686018427387904):wr ((a:Int) - 1)=((a - 1:Nat):Int):=wV (b:=1) h c
theorem qc{k m:Nat}(h:k<9223372036854775807)(a:m=k+1):AV.v (.int .i64 (IntKind.wrap .i64 ((k:Int)+1)))=i64 (m:Int):=by
 rw[show IntKind.wrap .i64 ((k:Int)+1)=((k+1:Nat):Int) from xS h,a]
theorem dlt{a b:Nat}(e:decide ((a:Int)<(b:Int))=true):a<b:=by simpa using e
theorem xc{a b:Nat}(e:decide ((a:Int)<(b:Int))=false):b<=a:=by simpa using e
theorem kUa{l U V:List Ev}{x:Ev}(h:qj l=U++V)(b:∀y∈V,ltE x y=true)(a:∀y∈U,ltE x y=false):qj (l++[x])=U++x::V:=by
 rw[wma,h,V4 a b]
theorem Kla(h:List Ob)(id st a b n:Nat)(P X M Y Q:List Ev)(f:AV)(hi:h[id]? =some (ja (P++(X++(M++(Y++Q)))) st))(V:a=P.length)(O:b=P.length+X.length+M.length)(v:X.length=n)(w:Y.length=n)(H:P.length+X.length+M.length+Y.length<1099511627776):
  ACalls Tryz.prog 299 [.tl id st,i64 a,i64 b,i64 n,f] h λr h'=>r= .tup []/\h'=h.set id (ja (P++(Y++(M++(X++Q)))) st):=by
 refine zl Tryz.f299 [] 38 rfl rfl rfl rfl rfl rfl (by decide) (⟨_,_,⟨rfl,rfl⟩,qH hi rfl⟩) λB=>?_
 simp only[go_sem]
 refine zO (by decide) (λm T h'=>∃c s d u,X=c++s/\Y=d++u/\c.length=d.length/\h'=h.set id (ja (P++(d++(s++(M++(c++(u++Q)))))) st)/\T 0= .tl id st/\T 1=i64 a/\T 2=i64 b/\T 3=i64 n/\T 10=i64 c.length/\m=s.length) n
  ⟨[],X,[],Y,rfl,rfl,rfl,by rw[List.nil_append,List.nil_append,qX hi],by simp only[go_sem],by simp only[go_sem],by simp only[go_sem],by simp only[go_sem],by(simp only[go_sem]<;>rfl),v.symm⟩ ?_
 rintro m T h' ⟨c,s,d,u,rfl,rfl,z,rfl,t0,t1,t2,t3,t10,rfl⟩
 simp only[go_sem,t10,t3]
 refine ways (λe=>?_) (λe=>?_)
 ·have A:c.length<n:=by simpa using e
  cases s with
  | nil=>simp at v;omega
  | cons x k=>
  cases u with
  | nil=>simp at w;omega
  | cons y p=>
  simp only[ze,List.length_cons] at v w O H
  have I:∀o,(h.set id o)[id]? =some o:=λo=>zq hi
  obtain⟨l,t⟩:∃l,l=P++(d++(x::k++(M++(c++(y::p++Q))))):=⟨_,rfl⟩
  have g:l=(P++d)++x::((k++(M++c))++y::(p++Q)):=by rw[t];simp
  have D:l.length=P.length+d.length+1+k.length+M.length+c.length+1+p.length+Q.length:=by rw[g];simp;omega
  have E:a+c.length=(P++d).length:=by simp;omega
  have C:b+c.length=(P++d).length+1+(k++(M++c)).length:=by simp;omega
  have U:(l.map evC)[a+c.length]? =some (evC x):=jR (by rw[g];exact Zv E)
  have R:(l.map evC)[b+c.length]? =some (evC y):=jR (by
   rw[g,show(P++d)++x::((k++(M++c))++y::(p++Q))=((P++d)++x::(k++(M++c)))++y::(p++Q) by simp]
   exact Zv (by rw[C];simp;omega))
  have J:((a+c.length:Nat):Int)<((l.length:Nat):Int):=by omega
  have K:((b+c.length:Nat):Int)<((l.length:Nat):Int):=by omega
  have L:=Zl (a:=a) (b:=c.length) (by omega)
  have F:=Zl (a:=b) (b:=c.length) (by omega)
  obtain⟨q,N,G⟩:=Vd (l:=l) (i:=a+c.length) (j:=b+c.length) y (by omega)
  have S:=Ka g E C
  rw[<-t]
  simp only[go_sem]
  refine zV rfl [] 0 [(0,0,[]),(1,0,[]),(2,0,[]),(3,0,[]),(4,0,[]),(5,0,[]),(6,0,[]),(7,0,[]),(8,0,[]),(9,0,[]),(10,0,[]),(11,0,[]),(14,0,[]),(15,0,[]),(16,0,[]),(17,0,[]),(12,0,[]),(13,0,[]),(18,0,[]),(19,0,[]),(20,0,[]),(21,0,[]),(22,0,[]),(23,0,[])] rfl (by decide) (by decide) ?_
  simp only[go_sem,t1,t2,t10,t0,I,U,R,N,G,J,K,L,F,zb,Int.toNat_natCast,zg,qh]
  refine⟨k.length,by simp,c++[x],k,d++[y],p,by simp,by simp,by simp[z],?_,t3,?_,rfl⟩
  ·rw[S];exact congrArg (λl=>h.set id (ja l st)) (by simp)
  ·exact qc (by omega) (by simp)
 ·have A:¬ c.length<n:=by simpa using e
  have:s=[]:=zz (by simp at v;omega)
  subst this
  have:u=[]:=zz (by simp at w v;omega)
  subst this
  simp only[go_sem]
  exact⟨.tup [],by simp only[go_sem],.inl ⟨rfl,by simp⟩⟩
theorem Ypa(h:List Ob)(id st a m b:Nat)(P A D Q:List Ev)(f:AV)(hi:h[id]? =some (ja (P++(A++(D++Q))) st))(X:a=P.length)(I:m=P.length+A.length)(W:b=P.length+A.length+D.length)(U:0<A.length)(hB:0<D.length)(H:P.length+A.length+D.length<1099511627776):
  ACalls Tryz.prog 283 [.tl id st,i64 a,i64 m,i64 b,f] h λr h'=>r= .tup []/\h'=h.set id (ja (P++(D++(A++Q))) st):=by
 have J:wr ((m:Int) - (a:Int))=(A.length:Int):=by rw[wV (by omega) (by omega)];omega
 have S:wr ((b:Int) - (m:Int))=(D.length:Int):=by rw[wV (by omega) (by omega)];omega
 refine zl Tryz.f283 [] 58 rfl rfl rfl rfl rfl rfl (by decide) (⟨_,_,⟨rfl,rfl⟩,qH hi rfl⟩) λB=>?_
 simp only[go_sem,J,S]
 refine zO (by decide) (λn T h'=>∃L c d R,P++(D++(A++Q))=L++(d++(c++R))/\L.length+c.length=m/\0<c.length/\0<d.length/\L.length+c.length+d.length<1099511627776/\h'=h.set id (ja (L++(c++(d++R))) st)/\T 0= .tl id st/\T 2=i64 m/\T 4=f/\T 10=i64 c.length/\T 11=i64 d.length/\n=c.length+d.length) (A.length+D.length)
  ⟨P,A,D,Q,rfl,I.symm,U,hB,H,by rw[qX hi],by simp only[go_sem],by simp only[go_sem],by simp only[go_sem],by simp only[go_sem],by simp only[go_sem],rfl⟩ ?_
 rintro n T h' ⟨L,c,d,R,heq,M,K,N,V,rfl,t0,t2,t4,t10,g,rfl⟩
 have z:∀o,(h.set id o)[id]? =some o:=λo=>zq hi
 have F:wr ((m:Int) - (c.length:Int))=((m - c.length:Nat):Int):=wV (by omega) (by omega)
 simp only[go_sem,t10,g]
 refine ways (λe=>?_) (λe=>?_)
 ·simp only[go_sem,t10,g]
  have w:c.length≠d.length:=λk=>by simp[k] at e
  refine ways (λC=>?_) (λC=>?_)
  ·have y:d.length<c.length:=by simpa using C
   obtain⟨p,s,i,u⟩:∃p s,c=p++s/\p.length=d.length:=⟨c.take d.length,c.drop d.length,(qr _ _).symm,by simp;omega⟩
   have E:wr ((c.length:Int) - (d.length:Int))=((s.length:Nat):Int):=by
    rw[wV (by omega) (by omega),i,ze];omega
   have v:c.length=p.length+s.length:=by rw[i,ze]
   simp only[go_sem,t0,t2,t4,t10,g,F]
   refine zi (Kla _ id st _ _ _ L p s d R f (by rw[z,i];simp) (by omega) (by omega) u rfl (by omega)) ?_
   rintro _ G ⟨rfl,x⟩
   subst x
   simp only[go_sem,t0,t2,t4,t10,g,E,qh]
   refine⟨s.length+p.length,by omega,L++d,s,p,R,by rw[heq,i];simp,by simp;omega,by omega,by omega,by simp;omega,by simp,rfl,by rw[u],rfl⟩
  ·have y:c.length<d.length:=by
    have:¬ d.length<c.length:=by simpa using C
    omega
   obtain⟨q,l,j,t⟩:∃q l,d=q++l/\l.length=c.length:=⟨d.take (d.length - c.length),d.drop (d.length - c.length),(qr _ _).symm,by simp;omega⟩
   have v:d.length=q.length+l.length:=by rw[j,ze]
   have E:wr ((d.length:Int) - (c.length:Int))=((q.length:Nat):Int):=by
    rw[wV (by omega) (by omega)];omega
   have O:wr (wr ((m:Int)+(d.length:Int)) - (c.length:Int))=((m+d.length - c.length:Nat):Int):=by
    rw[Zl (by omega),wV (by omega) (by omega)]
   simp only[go_sem,t0,t2,t4,t10,g,F,O]
   refine zi (Kla _ id st _ _ _ L c q l R f (by rw[z,j];simp) (by omega) (by omega) rfl t (by omega)) ?_
   rintro _ G ⟨rfl,x⟩
   subst x
   simp only[go_sem,t0,t2,t4,t10,g,E,qh]
   refine⟨l.length+q.length,by omega,L,l,q,c++R,by rw[heq,j];simp,by omega,by omega,by omega,by omega,by simp,by rw[t],rfl,rfl⟩
 ·have w:c.length=d.length:=by
   have:(c.length:Int)=d.length:=by simpa using e
   omega
  simp only[go_sem,t0,t2,t4,t10,g,F]
  refine zi (Kla _ id st _ _ _ L c [] d R f (by rw[z];simp) (by omega) (by simp only[List.length_nil];omega) rfl w.symm (by simp only[List.length_nil];omega)) ?_
  rintro _ G ⟨rfl,x⟩
  subst x
  simp only[go_sem,qh]
  exact⟨.tup [],by simp only[go_sem],.inl ⟨rfl,by rw[heq]⟩⟩
theorem VVa(h:List Ob)(id st a b:Nat)(P S Q:List Ev)(hi:h[id]? =some (ja (P++(S++Q)) st))(ha:a=P.length)(D:b=P.length+S.length)(hl:(P++(S++Q)).length<1099511627776):
  ACalls Tryz.prog 237 [.tl id st,i64 a,i64 b,.fn (.func 111) [] []] h λr h'=>r= .tup []/\h'=h.set id (ja (P++(qj S++Q)) st):=by
 have N:∀o,(h.set id o)[id]? =some o:=λo=>zq hi
 simp only[ze] at hl
 have w1:wr ((a:Int)+1)=((a+1:Nat):Int):=xS (by omega)
 refine zl Tryz.f237 [] 53 rfl rfl rfl rfl rfl rfl (by decide) (⟨_,_,⟨rfl,rfl⟩,qH hi rfl⟩) λB=>?_
 simp only[go_sem,w1]
 refine zO (by decide) (λn T h'=>∃d z,S=d++z/\h'=h.set id (ja (P++(qj d++(z++Q))) st)/\T 0= .tl id st/\T 1=i64 a/\T 2=i64 b/\T 3= .fn (.func 111) [] []/\T 8=i64 (a+d.length+(if S=[] then 1 else 0):Nat)/\n=z.length) (S.length - 1) ?_ ?_
 ·cases S with
  | nil=>exact⟨[],[],rfl,by rw[qj,List.nil_append,qX hi],by simp only[go_sem],by simp only[go_sem],by simp only[go_sem],by simp only[go_sem],by simp only[go_sem],rfl⟩
  | cons x S=>exact⟨[x],S,rfl,(qX hi).symm,by simp only[go_sem],by simp only[go_sem],by simp only[go_sem],by simp only[go_sem],by simp only[go_sem],rfl⟩
 rintro n T h' ⟨d,z,s,rfl,t0,t1,t2,t3,t8,rfl⟩
 simp only[go_sem,t8,t2]
 refine ways (λe=>?_) (λe=>?_)
 ·have w:a+d.length+(if S=[] then 1 else 0)<b:=dlt e
  have c:S≠[]:=λk=>by rw[k] at w D;simp at w D;omega
  rw[if_neg c] at t8 w
  cases z with
  | nil=>rw[s] at D;simp at D;omega
  | cons x f=>
  have η:S.length=d.length+1+f.length:=by rw[s];simp;omega
  have E:=jQ d
  simp only[go_sem,t8]
  refine zO (by decide) (λn T h'=>∃U V,qj d=U++V/\(∀y∈V,ltE x y=true)/\h'=h.set id (ja (P++(U++(x::(V++(f++Q))))) st)/\T 0= .tl id st/\T 1=i64 a/\T 2=i64 b/\T 3= .fn (.func 111) [] []/\T 8=i64 (a+d.length:Nat)/\T 9=i64 (a+U.length:Nat)/\n=U.length) (qj d).length
   ⟨qj d,[],by simp,by simp,by simp,by simp only[go_sem,t0],by simp only[go_sem,t1],by simp only[go_sem,t2],by simp only[go_sem,t3],by simp only[go_sem,t8,c],by simp only[go_sem,t8,c,E],rfl⟩ ?_
  rintro n T h' ⟨U,V,g,J,rfl,t0,t1,t2,t3,t8,t9,rfl⟩
  have A:d.length=U.length+V.length:=by rw[<-E,g,ze]
  have C:=qc (k:=a+d.length) (m:=a+(d++[x]).length) (by omega) (by simp;omega)
  rcases List.eq_nil_or_concat U with rfl|⟨U,u,rfl⟩
  ·simp only[go_sem]
   refine zV rfl [] 0 [(0,0,[]),(1,0,[]),(2,0,[]),(3,0,[]),(4,0,[]),(5,0,[]),(6,0,[]),(9,0,[]),(10,0,[]),(11,0,[]),(7,0,[]),(8,0,[]),(12,0,[]),(13,0,[]),(14,0,[]),(15,0,[]),(16,0,[])] rfl (by decide) (by decide) ?_
   have t9:T 9=i64 (a:Int):=t9
   simp only[go_sem,t9,t1,t8,gt_iff_lt,Int.lt_irrefl,decide_false,beq_self_eq_true,Bool.false_eq_true,Bool.true_eq_false]
   refine⟨f.length,by simp,d++[x],f,by rw[s];simp,?_,t0,t2,t3,?_,rfl⟩
   ·rw[kUa g J (by simp)];rfl
   ·rw[if_neg c];exact C
  ·rw[List.concat_eq_append] at*
   simp only[ze,List.length_cons,List.length_nil] at A t9
   obtain⟨l,t⟩:∃l,l=P++(U++[u]++(x::(V++(f++Q)))):=⟨_,rfl⟩
   have p:l=(P++U)++u::([]++x::(V++(f++Q))):=by rw[t];simp
   have M:l.length=P.length+U.length+2+V.length+f.length+Q.length:=by rw[p];simp;omega
   have O:a+U.length=(P++U).length:=by simp;omega
   have L:a+(U.length+1)=(P++U).length+1+([]:List Ev).length:=by simp;omega
   have Y:(l.map evC)[a+U.length]? =some (evC u):=jR (by rw[p];exact Zv O)
   have X:(l.map evC)[a+(U.length+1)]? =some (evC x):=jR (by
    rw[p,show(P++U)++u::([]++x::(V++(f++Q)))=((P++U)++[u])++x::(V++(f++Q)) by simp]
    exact Zv (by rw[L];simp;omega))
   have R:((a+U.length:Nat):Int)<((l.length:Nat):Int):=by omega
   have W:((a+(U.length+1):Nat):Int)<((l.length:Nat):Int):=by omega
   have Z:((a:Nat):Int)<((a+(U.length+1):Nat):Int):=by omega
   have K:wr (((a+(U.length+1):Nat):Int) - 1)=((a+U.length:Nat):Int):=by
    rw[Xy (by omega) (by omega)];omega
   obtain⟨q,q1,q2⟩:=Vd (l:=l) (i:=a+(U.length+1)) (j:=a+U.length) u (by omega)
   have sw:=V6 p O L
   rw[<-t]
   simp only[go_sem]
   refine zV rfl [] 0 [(0,0,[]),(1,0,[]),(2,0,[]),(3,0,[]),(4,0,[]),(5,0,[]),(6,0,[]),(9,0,[]),(10,0,[]),(11,0,[]),(7,0,[]),(8,0,[]),(12,0,[]),(13,0,[]),(14,0,[]),(15,0,[]),(16,0,[])] rfl (by decide) (by decide) ?_
   simp only[go_sem,t9,t1,t0,t3,gt_iff_lt,Z,decide_true,N,Y,X,R,W,K,zb,Int.toNat_natCast,zg,beq_self_eq_true,Bool.false_eq_true,Bool.true_eq_false]
   refine zi (c89 x u _) ?_
   rintro _ h1 ⟨rfl,e3⟩
   subst e3
   simp only[go_sem]
   refine ways (λv=>?_) (λv=>?_)
   ·have v:ltE x u=true:=v
    simp only[go_sem]
    refine zV rfl [] 0 [(0,0,[]),(1,0,[]),(2,0,[]),(3,0,[]),(4,0,[]),(5,0,[]),(6,0,[]),(7,0,[]),(10,0,[]),(11,0,[]),(8,0,[]),(9,0,[]),(12,0,[]),(13,0,[]),(14,0,[]),(15,0,[]),(16,0,[]),(17,0,[])] rfl (by decide) (by decide) ?_
    simp only[go_sem,t9,t1,t0,t3,N,Y,X,q1,q2,R,W,K,zb,Int.toNat_natCast,zg,qh]
    refine⟨U.length,by simp,U,u::V,by rw[g];simp,λy I=>?_,?_,t2,t8,rfl,rfl⟩
    ·rcases zH.1 I with rfl|I
     ·exact v
     ·exact J y I
    ·rw[sw];exact congrArg (λl=>h.set id (ja l st)) (by simp)
   ·have v:ltE x u=false:=v
    simp only[go_sem,t8]
    have G:Srt ((U++[u])++V):=by rw[<-g];exact vl _
    refine⟨f.length,by simp,d++[x],f,by rw[s];simp,?_,t0,t1,t2,t3,?_,rfl⟩
    ·rw[kUa g J (qXa (xz.1 G).1 v),t];exact congrArg (λl=>h.set id (ja l st)) (by simp)
    ·rw[if_neg c];exact C
 ·have F:=xc e
  have H:z=[]:=by
   apply zz
   rw[s,ze] at D
   by_cases c:S=[]
   ·rw[s] at c;simp at c;simp[c]
   ·rw[if_neg c] at F;omega
  subst H
  rw[zU] at s
  subst s
  simp only[go_sem]
  exact⟨.tup [],by simp only[go_sem],.inl ⟨rfl,by simp⟩⟩
