/-
  Joined.
-/
import Derived.Test.YtfmldcilgbbimaaGreatK13
set_option linter.unusedSimpArgs false
set_option linter.unusedVariables false
namespace Go.Proofs.YtfmldcilgbbimaaGreat.Ax
open Go Go.Proofs
instance:Inhabited Ev:=⟨⟨0,0,0,0,0,0,0,0,0,0,0⟩⟩
def ltE (a b:Ev):Bool:=decide (waa a b<0)
theorem xv (a b:Ev):ltE a b=true↔(a.at_<b.at_∨(a.at_=b.at_/\a.id<b.id)):=by
 simp only[ltE,decide_eq_true_eq]
 unfold waa VP orI orI orI
 by_cases c:a.at_<b.at_
 ·rw[if_pos c];simp[c]
 ·rw[if_neg c]
  by_cases d:a.at_>b.at_
  ·rw[if_pos d];simp;omega
  ·rw[if_neg d]
   by_cases e:a.id<b.id
   ·rw[if_pos e];simp;omega
   ·rw[if_neg e]
    split<;>simp<;>omega
theorem jr (a b:Ev):ltE a b=false↔¬ (a.at_<b.at_∨(a.at_=b.at_/\a.id<b.id)):=by
 rw[<-xv,Bool.not_eq_true]
def mergeE:List Ev->List Ev->List Ev
 | [],b=>b
 | a,[]=>a
 | x::a,y::b=>if ltE y x then y::mergeE (x::a) b else x::mergeE a (y::b)
termination_by a b=>a.length+b.length
theorem jh (b:List Ev):mergeE [] b=b:=by rw[mergeE]
theorem qP (a:List Ev):mergeE a []=a:=by cases a<;>simp[mergeE]
theorem qd (x y:Ev) (a b:List Ev):mergeE (x::a) (y::b)=if ltE y x then y::mergeE (x::a) b else x::mergeE a (y::b):=by rw[mergeE]
def ku (x:Ev):List Ev->List Ev
 | []=>[x]
 | y::b=>if ltE y x then y::ku x b else x::y::b
def zC:List Ev->List Ev
 | []=>[]
 | x::l=>ku x (zC l)
theorem WI (x:Ev):∀l,(ku x l).length=l.length+1
 | []=>rfl
 | y::l=>by
   simp only[ku]
   split
   ·simp[WI x l]
   ·simp
theorem qB:∀l,(zC l).length=l.length
 | []=>rfl
 | x::l=>by simp[zC,WI,qB l]
theorem KU (x:Ev):∀b,mergeE [x] b=ku x b
 | []=>by simp[mergeE,ku]
 | y::b=>by
   rw[qd,ku,jh]
   split
   ·rw[KU x b]
   ·rfl
theorem qi (x y:Ev) (b:List Ev):ku x (y::b)=if ltE y x then y::ku x b else x::y::b:=rfl
theorem wR (x:Ev):∀(a b:List Ev),mergeE (ku x a) b=ku x (mergeE a b)
 | [],b=>by rw[jh,ku,KU]
 | s::a,[]=>by rw[qP,qP]
 | s::a,t::b=>by
   rw[qi]
   by_cases d:ltE s x
   ·rw[if_pos d,qd,qd]
    by_cases c:ltE t s
    ·rw[if_pos c,if_pos c,qi,if_pos (by rw[xv] at *; omega)]
     have:=wR x (s::a) b
     rw[qi,if_pos d] at this
     rw[this]
    ·rw[if_neg c,if_neg c,qi,if_pos d,wR x a (t::b)]
   ·rw[if_neg d,qd]
    by_cases c:ltE t x
    ·have e:ltE t s=true:=by
      rw[Bool.not_eq_true,jr] at d
      rw[xv] at *; omega
     rw[if_pos c,qd,if_pos e,qi,if_pos c]
     have:=wR x (s::a) b
     rw[qi,if_neg d] at this
     rw[this]
    ·rw[if_neg c,qd]
     split
     ·rw[qi,if_neg c]
     ·rw[qi,if_neg d]
termination_by a b=>a.length+b.length
theorem wS (b:List Ev):∀a,mergeE (zC a) (zC b)=zC (a++b)
 | []=>by rw[zC,jh,List.nil_append]
 | x::a=>by rw[zC,wR,wS b a,List.cons_append,zC]
def Srt:List Ev->Prop
 | []=>True
 | x::l=>(∀y∈l,ltE y x=false)/\Srt l
theorem Xu {x z:Ev}:∀ {l:List Ev},z∈ku x l↔z=x∨z∈l
 | []=>by simp[ku]
 | y::l=>by
   rw[qi]
   split
   ·simp only[List.mem_cons,Xu (l:=l)]
    constructor<;>(rintro (h | h | h)<;>simp[h])
   ·simp
theorem WJ (x:Ev):∀ {l:List Ev},Srt l->Srt (ku x l)
 | [],_=>⟨λy h=>(by cases h),trivial⟩
 | y::l,⟨b,c⟩=>by
   rw[qi]
   split
   ·rename_i h
    refine ⟨λz a=>?_,WJ x c⟩
    rcases Xu.1 a with rfl | a
    ·rw[jr];rw[xv] at h;omega
    ·exact b z a
   ·rename_i h
    refine ⟨λz a=>?_,b,c⟩
    rw[Bool.not_eq_true] at h
    rcases List.mem_cons.1 a with rfl | a
    ·exact h
    ·have:=b z a
     rw[jr] at *; omega
theorem xD:∀l,Srt (zC l)
 | []=>trivial
 | x::l=>WJ x (xD l)
theorem QM {z:Ev}:∀ {l:List Ev},z∈zC l↔z∈l
 | []=>by simp[zC]
 | x::l=>by rw[zC,Xu,QM,List.mem_cons]
theorem jc {a b:List Ev}:Srt (a++b)↔Srt a/\Srt b/\∀x∈a,∀y∈b,ltE y x=false:=by
 induction a with
 | nil=>simp[Srt]
 | cons x a i=>
   rw[List.cons_append,Srt,i,Srt]
   constructor
   ·rintro ⟨f,g,h,e⟩
    refine ⟨⟨λy c=>f y (List.mem_append_left _ c),g⟩,h,λz d y c=>?_⟩
    rcases List.mem_cons.1 d with rfl | d
    ·exact f y (List.mem_append_right _ c)
    ·exact e z d y c
   ·rintro ⟨⟨f,g⟩,h,e⟩
    refine ⟨λy c=>?_,g,h,λz d y c=>e z (List.mem_cons_of_mem _ d) y c⟩
    rcases List.mem_append.1 c with c | c
    ·exact f y c
    ·exact e x List.mem_cons_self y c
theorem jBa (a b:List Ev):(mergeE a b).length=a.length+b.length:=by
 induction a,b using mergeE.induct with
 | case1 b=>simp[mergeE]
 | case2 a h=>rw[qP];simp
 | case3 x a y b h c=>rw[qd,if_pos h];simp only[List.length_cons] at *; omega
 | case4 x a y b h c=>rw[qd,if_neg h];simp only[List.length_cons] at *; omega
theorem Xv:∀(a b c:List Ev),(∀x∈a,∀y∈b,ltE y x=false)->mergeE a b=a++b
 | [],b,_,_=>by rw[jh,List.nil_append]
 | x::a,[],_,_=>by rw[qP,List.append_nil]
 | x::a,y::b,c,h=>by
   rw[qd,if_neg (by rw[h x List.mem_cons_self y List.mem_cons_self];simp),Xv a (y::b) c λz d=>h z (List.mem_cons_of_mem _ d),List.cons_append]
theorem yI {a1 a2 b1 b2:List Ev} (f:∀x∈a1,∀y∈b2,ltE y x=false) (e:∀x∈a2,∀y∈b1,ltE y x=true):mergeE (a1++a2) (b1++b2)=mergeE a1 b1++mergeE a2 b2:=by
 induction a1,b1 using mergeE.induct with
 | case1 b=>
   rw[jh,List.nil_append]
   induction b with
   | nil=>rfl
   | cons y b c=>
     cases a2 with
     | nil=>rw[jh,jh]
     | cons x a=>
       rw[List.cons_append,qd,if_pos (e x List.mem_cons_self y List.mem_cons_self),c (λz d w g=>e z d w (List.mem_cons_of_mem _ g)),List.cons_append]
 | case2 a h=>
   rw[qP,List.nil_append]
   clear h e
   induction a with
   | nil=>rfl
   | cons x a c=>
     cases b2 with
     | nil=>rw[qP,qP]
     | cons y b=>
       rw[List.cons_append,qd,if_neg (by rw[f x List.mem_cons_self y List.mem_cons_self];simp),c (λz d=>f z (List.mem_cons_of_mem _ d)),List.cons_append]
 | case3 x a y b h c=>
   rw[List.cons_append,List.cons_append,qd,qd,if_pos h,if_pos h, <-List.cons_append,c f (λz d w g=>e z d w (List.mem_cons_of_mem _ g)),List.cons_append]
 | case4 x a y b h c=>
   rw[List.cons_append,List.cons_append,qd,qd,if_neg h,if_neg h, <-List.cons_append,c (λz d=>f z (List.mem_cons_of_mem _ d)) e,List.cons_append]
theorem Xw {a1 a2:List Ev} {x:Ev} (b:∀y∈a1,ltE x y=false) (a:∀y∈a2,ltE x y=true):mergeE (a1++a2) [x]=a1++x::a2:=by
 have:=yI (a1:=a1) (a2:=a2) (b1:=[x]) (b2:=[]) (by simp) (by simpa using a)
 rw[List.append_nil] at this
 rw[this,qP,Xv a1 [x] [] (by simpa using b)]
 simp
theorem WK {b1 b2:List Ev} {x:Ev} (b:∀y∈b1,ltE y x=true) (a:∀y∈b2,ltE y x=false):mergeE [x] (b1++b2)=b1++x::b2:=by
 have:=yI (a1:=[]) (a2:=[x]) (b1:=b1) (b2:=b2) (by simp) (by simpa using b)
 rw[List.nil_append] at this
 rw[this,jh,Xv [x] b2 [] (by simpa using a)]
 simp
theorem jCa {l:List Ev} {x:Ev}:zC (l++[x])=mergeE (zC l) [x]:=by rw[<-wS,show zC [x]=[x] from rfl]
theorem WL {a:List Ev} {x z:Ev} (h:Srt (a++[x])) (d:ltE z x=false):∀y∈a++[x],ltE z y=false:=by
 intro y c
 rcases List.mem_append.1 c with b | b
 ·have e:=(jc.1 h).2.2 y b x (by simp)
  rw[jr] at *; omega
 ·rw[List.mem_singleton.1 b];exact d
theorem jDa {a:List Ev} {x z:Ev} (h:Srt (a++[x])) (d:ltE x z=true):∀y∈a++[x],ltE y z=true:=by
 intro y c
 rcases List.mem_append.1 c with b | b
 ·have e:=(jc.1 h).2.2 y b x (by simp)
  rw[jr] at *; rw[xv] at *; omega
 ·rw[List.mem_singleton.1 b];exact d
theorem WM {a:List Ev} {x z:Ev} (h:Srt (x::a)) (d:ltE x z=false):∀y∈x::a,ltE y z=false:=by
 intro y c
 rcases List.mem_cons.1 c with rfl | b
 ·exact d
 ·have e:=h.1 y b
  rw[jr] at *; omega
theorem jEa {a:List Ev} {x z:Ev} (h:Srt (x::a)) (e:ltE z x=true):∀y∈x::a,ltE z y=true:=by
 intro y d
 rcases List.mem_cons.1 d with rfl | b
 ·exact e
 ·have c:=h.1 y b
  rw[jr] at c;rw[xv] at *; omega
theorem wba {a b c:List Ev} {x y:Ev} {i j:Nat} (d:i=a.length) (e:j=a.length+1+b.length):((a++x::(b++y::c)).set i y).set j x=a++y::(b++x::c):=by
 subst d e
 rw[List.set_append_right _ _ (Nat.le_refl _),Nat.sub_self,List.set_cons_zero,List.set_append_right _ _ (by omega),show a.length+1+b.length - a.length=b.length+1 by omega,List.set_cons_succ,List.set_append_right _ _ (Nat.le_refl _),Nat.sub_self,List.set_cons_zero]
theorem wB {a c:List Ev} {x:Ev} {i:Nat} (b:i=a.length):(a++x::c)[i]? =some x:=by
 subst b
 rw[List.getElem?_append_right (Nat.le_refl _),Nat.sub_self];rfl
def blkE (n:Nat) (l:List Ev):List Ev:=if h:l.length<=n∨n=0 then zC l else zC (l.take n)++blkE n (l.drop n)
termination_by l.length
decreasing_by simp only[List.length_drop];omega
theorem ksa (n:Nat) (l:List Ev):(blkE n l).length=l.length:=by
 induction l using blkE.induct n with
 | case1 l h=>rw[blkE,dif_pos h,qB]
 | case2 l h a=>rw[blkE,dif_neg h,List.length_append,qB,a];simp only[List.length_take,List.length_drop];omega
theorem wh {n:Nat} {l:List Ev} (h:l.length<=n):blkE n l=zC l:=by rw[blkE,dif_pos (.inl h)]
theorem yJ {n:Nat} {a l:List Ev} (b:a.length=n) (c:0<n):blkE n (a++l)=zC a++blkE n l:=by
 cases l with
 | nil=>rw[List.append_nil,wh (by omega),wh (by simp),zC,List.append_nil]
 | cons x l=>
   rw[blkE,dif_neg (by simp only[List.length_append,List.length_cons];omega)]
   subst b
   rw[List.take_left,List.drop_left]
set_option maxRecDepth 100000
attribute [go_sem] vMa vNa ty3
abbrev zV (l:List Ev) (st:Nat):Ob:= .row 73 11 (l.map evC) st
theorem qD {l:List Ev} {i:Nat} {x:Ev} (h:l[i]? =some x):(l.map evC)[i]? =some (evC x):=by
 rw[List.getElem?_map,h];rfl
theorem Xx:∀(q ns:List AV),q.length=ns.length->lay q 0 ns=some ns
 | [],[],_=>rfl
 | a::q,n::ns,h=>by
   simp only[lay]
   rw[Xx q ns (by simpa using h)]
   rfl
 | [],_::_,h=>by cases h
 | _::_,[],h=>by cases h
theorem JQ {l:List Ev} {i j:Nat} (e:Ev) (b:j<l.length):∃q,((l.map evC).set i (evC e))[j]? =some q/\∀ns:List AV,ns.length=11->lay q 0 ns=some ns:=by
 by_cases a:i=j
 ·subst a
  exact ⟨evC e,List.getElem?_set_self (by simpa using b),λns h=>Xx _ _ h.symm⟩
 ·rw[List.getElem?_set_ne a]
  exact ⟨_,qD (List.getElem?_eq_getElem b),λns h=>Xx _ _ h.symm⟩
theorem QN {a b c:List Ev} {x y:Ev} {i j:Nat} {l:List Ev} (f:l=a++x::(b++y::c)) (d:i=a.length) (e:j=a.length+1+b.length):((l.map evC).set i (evC y)).set j (evC x)=(a++y::(b++x::c)).map evC:=by
 rw[<-wba d e,f,List.map_set,List.map_set]
theorem Xy {a b c:List Ev} {x y:Ev} {i j:Nat} {l:List Ev} (f:l=a++x::(b++y::c)) (d:i=a.length) (e:j=a.length+1+b.length):((l.map evC).set j (evC x)).set i (evC y)=(a++y::(b++x::c)).map evC:=by
 rw[List.set_comm _ _ (by omega),QN f d e]
theorem ws {a b:Nat} (h:a+b<4611686018427387904):wr ((a:Int)+(b:Int))=((a+b:Nat):Int):=by rw[zt (by unfold Fit;omega)];rfl
theorem kR {a b:Nat} (h:b<=a) (c:a<4611686018427387904):wr ((a:Int) - (b:Int))=((a - b:Nat):Int):=by rw[zt (by unfold Fit;omega)];omega
theorem Qn {a:Nat} (h:1<=a) (c:a<4611686018427387904):wr ((a:Int) - 1)=((a - 1:Nat):Int):=kR (b:=1) h c
theorem zy {k m:Nat} (h:k<9223372036854775807) (a:m=k+1):AV.v (.int .i64 (IntKind.wrap .i64 ((k:Int)+1)))=i64 (m:Int):=by
 rw[show IntKind.wrap .i64 ((k:Int)+1)=((k+1:Nat):Int) from jq h,a]
theorem dlt {a b:Nat} (e:decide ((a:Int)<(b:Int))=true):a<b:=by simpa using e
theorem jd {a b:Nat} (e:decide ((a:Int)<(b:Int))=false):b<=a:=by simpa using e
theorem qma {l U V:List Ev} {x:Ev} (h:zC l=U++V) (a:∀y∈V,ltE x y=true) (b:∀y∈U,ltE x y=false):zC (l++[x])=U++x::V:=by
 rw[jCa,h,Xw b a]
theorem yWa (h:List Ob) (id st a b n:Nat) (P X M Y Q:List Ev) (f:AV) (w:h[id]? =some (zV (P++(X++(M++(Y++Q)))) st)) (W:a=P.length) (S:b=P.length+X.length+M.length) (u:X.length=n) (C:Y.length=n) (O:P.length+X.length+M.length+Y.length<1099511627776):
  ACalls Tryz.prog 276 [.tl id st,i64 a,i64 b,i64 n,f] h λr h'=>r= .tup []/\h'=h.set id (zV (P++(Y++(M++(X++Q)))) st):=by
 refine zf Tryz.f276 [] 38 rfl rfl rfl rfl rfl rfl (by decide) (⟨_,_,⟨rfl,rfl⟩,zJ w rfl⟩) λB=>?_
 simp only[go_sem]
 refine zk (by decide) (λm T h'=>∃c p d t,X=c++p/\Y=d++t/\c.length=d.length/\h'=h.set id (zV (P++(d++(p++(M++(c++(t++Q)))))) st)/\T 0= .tl id st/\T 1=i64 a/\T 2=i64 b/\T 3=i64 n/\T 10=i64 c.length/\m=p.length) n
  ⟨[],X,[],Y,rfl,rfl,rfl,by rw[List.nil_append,List.nil_append,zW w],by simp only[go_sem],by simp only[go_sem],by simp only[go_sem],by simp only[go_sem],by (simp only[go_sem]<;>rfl),u.symm⟩ ?_
 rintro m T h' ⟨c,p,d,t,rfl,rfl,z,rfl,t0,t1,t2,t3,t10,rfl⟩
 simp only[go_sem,t10,t3]
 refine ways (λe=>?_) (λe=>?_)
 ·have A:c.length<n:=by simpa using e
  cases p with
  | nil=>simp at u;omega
  | cons x k=>
  cases t with
  | nil=>simp at C;omega
  | cons y s=>
  simp only[List.length_append,List.length_cons] at u C S O
  have L:∀o,(h.set id o)[id]? =some o:=λo=>zh w
  obtain ⟨l,v⟩:∃l,l=P++(d++(x::k++(M++(c++(y::s++Q))))):=⟨_,rfl⟩
  have g:l=(P++d)++x::((k++(M++c))++y::(s++Q)):=by rw[v];simp
  have D:l.length=P.length+d.length+1+k.length+M.length+c.length+1+s.length+Q.length:=by rw[g];simp;omega
  have E:a+c.length=(P++d).length:=by simp;omega
  have F:b+c.length=(P++d).length+1+(k++(M++c)).length:=by simp;omega
  have V:(l.map evC)[a+c.length]? =some (evC x):=qD (by rw[g];exact wB E)
  have N:(l.map evC)[b+c.length]? =some (evC y):=qD (by
   rw[g,show (P++d)++x::((k++(M++c))++y::(s++Q))=((P++d)++x::(k++(M++c)))++y::(s++Q) by simp]
   exact wB (by rw[F];simp;omega))
  have I:((a+c.length:Nat):Int)<((l.length:Nat):Int):=by omega
  have G:((b+c.length:Nat):Int)<((l.length:Nat):Int):=by omega
  have J:=ws (a:=a) (b:=c.length) (by omega)
  have H:=ws (a:=b) (b:=c.length) (by omega)
  obtain ⟨q,U,R⟩:=JQ (l:=l) (i:=a+c.length) (j:=b+c.length) y (by omega)
  have K:=QN g E F
  rw[<-v]
  simp only[go_sem]
  refine zp rfl [] 0 [(0,0,[]),(1,0,[]),(2,0,[]),(3,0,[]),(4,0,[]),(5,0,[]),(6,0,[]),(7,0,[]),(8,0,[]),(9,0,[]),(10,0,[]),(11,0,[]),(14,0,[]),(15,0,[]),(16,0,[]),(17,0,[]),(12,0,[]),(13,0,[]),(18,0,[]),(19,0,[]),(20,0,[]),(21,0,[]),(22,0,[]),(23,0,[])] rfl (by decide) (by decide) ?_
  simp only[go_sem,t1,t2,t10,t0,L,V,N,U,R,I,G,J,H,List.length_map,Int.toNat_natCast,Int.natCast_nonneg,List.set_set]
  refine ⟨k.length,by simp,c++[x],k,d++[y],s,by simp,by simp,by simp[z],?_,t3,?_,rfl⟩
  ·rw[K];exact congrArg (λl=>h.set id (zV l st)) (by simp)
  ·exact zy (by omega) (by simp)
 ·have A:¬ c.length<n:=by simpa using e
  have:p=[]:=List.eq_nil_of_length_eq_zero (by simp at u;omega)
  subst this
  have:t=[]:=List.eq_nil_of_length_eq_zero (by simp at C u;omega)
  subst this
  simp only[go_sem]
  exact ⟨.tup [],by simp only[go_sem],.inl ⟨rfl,by simp⟩⟩
theorem JGa (h:List Ob) (id st a m b:Nat) (P A D Q:List Ev) (f:AV) (C:h[id]? =some (zV (P++(A++(D++Q))) st)) (X:a=P.length) (V:m=P.length+A.length) (Y:b=P.length+A.length+D.length) (J:0<A.length) (hB:0<D.length) (U:P.length+A.length+D.length<1099511627776):
  ACalls Tryz.prog 261 [.tl id st,i64 a,i64 m,i64 b,f] h λr h'=>r= .tup []/\h'=h.set id (zV (P++(D++(A++Q))) st):=by
 have O:wr ((m:Int) - (a:Int))=(A.length:Int):=by rw[kR (by omega) (by omega)];omega
 have W:wr ((b:Int) - (m:Int))=(D.length:Int):=by rw[kR (by omega) (by omega)];omega
 refine zf Tryz.f261 [] 58 rfl rfl rfl rfl rfl rfl (by decide) (⟨_,_,⟨rfl,rfl⟩,zJ C rfl⟩) λB=>?_
 simp only[go_sem,O,W]
 refine zk (by decide) (λn T h'=>∃L c d R,P++(D++(A++Q))=L++(d++(c++R))/\L.length+c.length=m/\0<c.length/\0<d.length/\L.length+c.length+d.length<1099511627776/\h'=h.set id (zV (L++(c++(d++R))) st)/\T 0= .tl id st/\T 2=i64 m/\T 4=f/\T 10=i64 c.length/\T 11=i64 d.length/\n=c.length+d.length) (A.length+D.length)
  ⟨P,A,D,Q,rfl,V.symm,J,hB,U,by rw[zW C],by simp only[go_sem],by simp only[go_sem],by simp only[go_sem],by simp only[go_sem],by simp only[go_sem],rfl⟩ ?_
 rintro n T h' ⟨L,c,d,R,heq,I,K,N,S,rfl,t0,t2,t4,t10,g,rfl⟩
 have F:∀o,(h.set id o)[id]? =some o:=λo=>zh C
 have E:wr ((m:Int) - (c.length:Int))=((m - c.length:Nat):Int):=kR (by omega) (by omega)
 simp only[go_sem,t10,g]
 refine ways (λe=>?_) (λe=>?_)
 ·simp only[go_sem,t10,g]
  have x:c.length≠d.length:=λk=>by simp[k] at e
  refine ways (λz=>?_) (λz=>?_)
  ·have y:d.length<c.length:=by simpa using z
   obtain ⟨l,s,i,v⟩:∃l s,c=l++s/\l.length=d.length:=⟨c.take d.length,c.drop d.length,(List.take_append_drop _ _).symm,by simp;omega⟩
   have G:wr ((c.length:Int) - (d.length:Int))=((s.length:Nat):Int):=by
    rw[kR (by omega) (by omega),i,List.length_append];omega
   have t:c.length=l.length+s.length:=by rw[i,List.length_append]
   simp only[go_sem,t0,t2,t4,t10,g,E]
   refine zd (yWa _ id st _ _ _ L l s d R f (by rw[F,i];simp) (by omega) (by omega) v rfl (by omega)) ?_
   rintro _ H ⟨rfl,w⟩
   subst w
   simp only[go_sem,t0,t2,t4,t10,g,G,List.set_set]
   refine ⟨s.length+l.length,by omega,L++d,s,l,R,by rw[heq,i];simp,by simp;omega,by omega,by omega,by simp;omega,by simp,rfl,by rw[v],rfl⟩
  ·have y:c.length<d.length:=by
    have:¬ d.length<c.length:=by simpa using z
    omega
   obtain ⟨j,q,p,u⟩:∃j q,d=j++q/\q.length=c.length:=⟨d.take (d.length - c.length),d.drop (d.length - c.length),(List.take_append_drop _ _).symm,by simp;omega⟩
   have t:d.length=j.length+q.length:=by rw[p,List.length_append]
   have G:wr ((d.length:Int) - (c.length:Int))=((j.length:Nat):Int):=by
    rw[kR (by omega) (by omega)];omega
   have M:wr (wr ((m:Int)+(d.length:Int)) - (c.length:Int))=((m+d.length - c.length:Nat):Int):=by
    rw[ws (by omega),kR (by omega) (by omega)]
   simp only[go_sem,t0,t2,t4,t10,g,E,M]
   refine zd (yWa _ id st _ _ _ L c j q R f (by rw[F,p];simp) (by omega) (by omega) rfl u (by omega)) ?_
   rintro _ H ⟨rfl,w⟩
   subst w
   simp only[go_sem,t0,t2,t4,t10,g,G,List.set_set]
   refine ⟨q.length+j.length,by omega,L,q,j,c++R,by rw[heq,p];simp,by omega,by omega,by omega,by omega,by simp,by rw[u],rfl,rfl⟩
 ·have x:c.length=d.length:=by
   have:(c.length:Int)=d.length:=by simpa using e
   omega
  simp only[go_sem,t0,t2,t4,t10,g,E]
  refine zd (yWa _ id st _ _ _ L c [] d R f (by rw[F];simp) (by omega) (by simp only[List.length_nil];omega) rfl x.symm (by simp only[List.length_nil];omega)) ?_
  rintro _ H ⟨rfl,w⟩
  subst w
  simp only[go_sem,List.set_set]
  exact ⟨.tup [],by simp only[go_sem],.inl ⟨rfl,by rw[heq]⟩⟩
theorem Qla (h:List Ob) (id st a b:Nat) (P S Q:List Ev) (F:h[id]? =some (zV (P++(S++Q)) st)) (ha:a=P.length) (E:b=P.length+S.length) (hl:(P++(S++Q)).length<1099511627776):
  ACalls Tryz.prog 215 [.tl id st,i64 a,i64 b,.fn (.func 97) [] []] h λr h'=>r= .tup []/\h'=h.set id (zV (P++(zC S++Q)) st):=by
 have X:∀o,(h.set id o)[id]? =some o:=λo=>zh F
 simp only[List.length_append] at hl
 have w1:wr ((a:Int)+1)=((a+1:Nat):Int):=jq (by omega)
 refine zf Tryz.f215 [] 53 rfl rfl rfl rfl rfl rfl (by decide) (⟨_,_,⟨rfl,rfl⟩,zJ F rfl⟩) λB=>?_
 simp only[go_sem,w1]
 refine zk (by decide) (λn T h'=>∃d z,S=d++z/\h'=h.set id (zV (P++(zC d++(z++Q))) st)/\T 0= .tl id st/\T 1=i64 a/\T 2=i64 b/\T 3= .fn (.func 97) [] []/\T 8=i64 (a+d.length+(if S=[] then 1 else 0):Nat)/\n=z.length) (S.length - 1) ?_ ?_
 ·cases S with
  | nil=>exact ⟨[],[],rfl,by rw[zC,List.nil_append,zW F],by simp only[go_sem],by simp only[go_sem],by simp only[go_sem],by simp only[go_sem],by simp only[go_sem],rfl⟩
  | cons x S=>exact ⟨[x],S,rfl,(zW F).symm,by simp only[go_sem],by simp only[go_sem],by simp only[go_sem],by simp only[go_sem],by simp only[go_sem],rfl⟩
 rintro n T h' ⟨d,z,s,rfl,t0,t1,t2,t3,t8,rfl⟩
 simp only[go_sem,t8,t2]
 refine ways (λe=>?_) (λe=>?_)
 ·have v:a+d.length+(if S=[] then 1 else 0)<b:=dlt e
  have c:S≠[]:=λk=>by rw[k] at v E;simp at v E;omega
  rw[if_neg c] at t8 v
  cases z with
  | nil=>rw[s] at E;simp at E;omega
  | cons x g=>
  have α:S.length=d.length+1+g.length:=by rw[s];simp;omega
  have A:=qB d
  simp only[go_sem,t8]
  refine zk (by decide) (λn T h'=>∃U V,zC d=U++V/\(∀y∈V,ltE x y=true)/\h'=h.set id (zV (P++(U++(x::(V++(g++Q))))) st)/\T 0= .tl id st/\T 1=i64 a/\T 2=i64 b/\T 3= .fn (.func 97) [] []/\T 8=i64 (a+d.length:Nat)/\T 9=i64 (a+U.length:Nat)/\n=U.length) (zC d).length
   ⟨zC d,[],by simp,by simp,by simp,by simp only[go_sem,t0],by simp only[go_sem,t1],by simp only[go_sem,t2],by simp only[go_sem,t3],by simp only[go_sem,t8,c],by simp only[go_sem,t8,c,A],rfl⟩ ?_
  rintro n T h' ⟨U,V,f,J,rfl,t0,t1,t2,t3,t8,t9,rfl⟩
  have C:d.length=U.length+V.length:=by rw[<-A,f,List.length_append]
  have D:=zy (k:=a+d.length) (m:=a+(d++[x]).length) (by omega) (by simp;omega)
  rcases List.eq_nil_or_concat U with rfl | ⟨U,u,rfl⟩
  ·simp only[go_sem]
   refine zp rfl [] 0 [(0,0,[]),(1,0,[]),(2,0,[]),(3,0,[]),(4,0,[]),(5,0,[]),(6,0,[]),(9,0,[]),(10,0,[]),(11,0,[]),(7,0,[]),(8,0,[]),(12,0,[]),(13,0,[]),(14,0,[]),(15,0,[]),(16,0,[])] rfl (by decide) (by decide) ?_
   have t9:T 9=i64 (a:Int):=t9
   simp only[go_sem,t9,t1,t8,gt_iff_lt,Int.lt_irrefl,decide_false,beq_self_eq_true,Bool.false_eq_true,Bool.true_eq_false]
   refine ⟨g.length,by simp,d++[x],g,by rw[s];simp,?_,t0,t2,t3,?_,rfl⟩
   ·rw[qma f J (by simp)];rfl
   ·rw[if_neg c];exact D
  ·rw[List.concat_eq_append] at*
   simp only[List.length_append,List.length_cons,List.length_nil] at C t9
   obtain ⟨l,w⟩:∃l,l=P++(U++[u]++(x::(V++(g++Q)))):=⟨_,rfl⟩
   have p:l=(P++U)++u::([]++x::(V++(g++Q))):=by rw[w];simp
   have L:l.length=P.length+U.length+2+V.length+g.length+Q.length:=by rw[p];simp;omega
   have N:a+U.length=(P++U).length:=by simp;omega
   have R:a+(U.length+1)=(P++U).length+1+([]:List Ev).length:=by simp;omega
   have Z:(l.map evC)[a+U.length]? =some (evC u):=qD (by rw[p];exact wB N)
   have Y:(l.map evC)[a+(U.length+1)]? =some (evC x):=qD (by
    rw[p,show (P++U)++u::([]++x::(V++(g++Q)))=((P++U)++[u])++x::(V++(g++Q)) by simp]
    exact wB (by rw[R];simp;omega))
   have W:((a+U.length:Nat):Int)<((l.length:Nat):Int):=by omega
   have M:((a+(U.length+1):Nat):Int)<((l.length:Nat):Int):=by omega
   have f1:((a:Nat):Int)<((a+(U.length+1):Nat):Int):=by omega
   have O:wr (((a+(U.length+1):Nat):Int) - 1)=((a+U.length:Nat):Int):=by
    rw[Qn (by omega) (by omega)];omega
   obtain ⟨q,q1,q2⟩:=JQ (l:=l) (i:=a+(U.length+1)) (j:=a+U.length) u (by omega)
   have sw:=Xy p N R
   rw[<-w]
   simp only[go_sem]
   refine zp rfl [] 0 [(0,0,[]),(1,0,[]),(2,0,[]),(3,0,[]),(4,0,[]),(5,0,[]),(6,0,[]),(9,0,[]),(10,0,[]),(11,0,[]),(7,0,[]),(8,0,[]),(12,0,[]),(13,0,[]),(14,0,[]),(15,0,[]),(16,0,[])] rfl (by decide) (by decide) ?_
   simp only[go_sem,t9,t1,t0,t3,gt_iff_lt,f1,decide_true,X,Z,Y,W,M,O,List.length_map,Int.toNat_natCast,Int.natCast_nonneg,beq_self_eq_true,Bool.false_eq_true,Bool.true_eq_false]
   refine zd (c89 x u _) ?_
   rintro _ h1 ⟨rfl,e3⟩
   subst e3
   simp only[go_sem]
   refine ways (λt=>?_) (λt=>?_)
   ·have t:ltE x u=true:=t
    simp only[go_sem]
    refine zp rfl [] 0 [(0,0,[]),(1,0,[]),(2,0,[]),(3,0,[]),(4,0,[]),(5,0,[]),(6,0,[]),(7,0,[]),(10,0,[]),(11,0,[]),(8,0,[]),(9,0,[]),(12,0,[]),(13,0,[]),(14,0,[]),(15,0,[]),(16,0,[]),(17,0,[])] rfl (by decide) (by decide) ?_
    simp only[go_sem,t9,t1,t0,t3,X,Z,Y,q1,q2,W,M,O,List.length_map,Int.toNat_natCast,Int.natCast_nonneg,List.set_set]
    refine ⟨U.length,by simp,U,u::V,by rw[f];simp,λy I=>?_,?_,t2,t8,rfl,rfl⟩
    ·rcases List.mem_cons.1 I with rfl | I
     ·exact t
     ·exact J y I
    ·rw[sw];exact congrArg (λl=>h.set id (zV l st)) (by simp)
   ·have t:ltE x u=false:=t
    simp only[go_sem,t8]
    have K:Srt ((U++[u])++V):=by rw[<-f];exact xD _
    refine ⟨g.length,by simp,d++[x],g,by rw[s];simp,?_,t0,t1,t2,t3,?_,rfl⟩
    ·rw[qma f J (WL (jc.1 K).1 t),w];exact congrArg (λl=>h.set id (zV l st)) (by simp)
    ·rw[if_neg c];exact D
 ·have H:=jd e
  have G:z=[]:=by
   apply List.eq_nil_of_length_eq_zero
   rw[s,List.length_append] at E
   by_cases c:S=[]
   ·rw[s] at c;simp at c;simp[c]
   ·rw[if_neg c] at H;omega
  subst G
  rw[List.append_nil] at s
  subst s
  simp only[go_sem]
  exact ⟨.tup [],by simp only[go_sem],.inl ⟨rfl,by simp⟩⟩
end Go.Proofs.YtfmldcilgbbimaaGreat.Ax
