/-
  Joined.
-/
import Derived.Test.YtigdlmpjijhpaaaGreatK13
set_option linter.unusedSimpArgs false
set_option linter.unusedVariables false
namespace Go.Proofs.YtigdlmpjijhpaaaGreat.Ax
open Go Go.Proofs
instance:Inhabited Ev:=⟨⟨0,0,0,0,0,0,0,0,0,0,0⟩⟩
def ltE (a b:Ev):Bool:=decide (wwa a b<0)
theorem xA (a b:Ev):ltE a b=true↔(a.at_<b.at_∨(a.at_=b.at_/\a.id<b.id)):=by
 simp only[ltE,decide_eq_true_eq]
 unfold wwa VW orI orI orI
 by_cases c:a.at_<b.at_
 ·rw[if_pos c];simp[c]
 ·rw[if_neg c]
  by_cases e:a.at_>b.at_
  ·rw[if_pos e];simp;omega
  ·rw[if_neg e]
   by_cases d:a.id<b.id
   ·rw[if_pos d];simp;omega
   ·rw[if_neg d]
    split<;>simp<;>omega
theorem jw (a b:Ev):ltE a b=false↔¬ (a.at_<b.at_∨(a.at_=b.at_/\a.id<b.id)):=by
 rw[<-xA,Bool.not_eq_true]
def mergeE:List Ev->List Ev->List Ev
 | [],b=>b
 | a,[]=>a
 | x::a,y::b=>if ltE y x then y::mergeE (x::a) b else x::mergeE a (y::b)
termination_by a b=>a.length+b.length
theorem jo (b:List Ev):mergeE [] b=b:=by rw[mergeE]
theorem qX (a:List Ev):mergeE a []=a:=by cases a<;>simp[mergeE]
theorem qm (x y:Ev) (a b:List Ev):mergeE (x::a) (y::b)=if ltE y x then y::mergeE (x::a) b else x::mergeE a (y::b):=by rw[mergeE]
def xY (x:Ev):List Ev->List Ev
 | []=>[x]
 | y::b=>if ltE y x then y::xY x b else x::y::b
def zx:List Ev->List Ev
 | []=>[]
 | x::l=>xY x (zx l)
theorem WS (x:Ev):∀l,(xY x l).length=l.length+1
 | []=>rfl
 | y::l=>by
   simp only[xY]
   split
   ·simp[WS x l]
   ·simp
theorem qF:∀l,(zx l).length=l.length
 | []=>rfl
 | x::l=>by simp[zx,WS,qF l]
theorem K0 (x:Ev):∀b,mergeE [x] b=xY x b
 | []=>by simp[mergeE,xY]
 | y::b=>by
   rw[qm,xY,jo]
   split
   ·rw[K0 x b]
   ·rfl
theorem qp (x y:Ev) (b:List Ev):xY x (y::b)=if ltE y x then y::xY x b else x::y::b:=rfl
theorem wY (x:Ev):∀(a b:List Ev),mergeE (xY x a) b=xY x (mergeE a b)
 | [],b=>by rw[jo,xY,K0]
 | s::a,[]=>by rw[qX,qX]
 | s::a,t::b=>by
   rw[qp]
   by_cases d:ltE s x
   ·rw[if_pos d,qm,qm]
    by_cases c:ltE t s
    ·rw[if_pos c,if_pos c,qp,if_pos (by rw[xA] at *; omega)]
     have:=wY x (s::a) b
     rw[qp,if_pos d] at this
     rw[this]
    ·rw[if_neg c,if_neg c,qp,if_pos d,wY x a (t::b)]
   ·rw[if_neg d,qm]
    by_cases c:ltE t x
    ·have e:ltE t s=true:=by
      rw[Bool.not_eq_true,jw] at d
      rw[xA] at *; omega
     rw[if_pos c,qm,if_pos e,qp,if_pos c]
     have:=wY x (s::a) b
     rw[qp,if_neg d] at this
     rw[this]
    ·rw[if_neg c,qm]
     split
     ·rw[qp,if_neg c]
     ·rw[qp,if_neg d]
termination_by a b=>a.length+b.length
theorem wZ (b:List Ev):∀a,mergeE (zx a) (zx b)=zx (a++b)
 | []=>by rw[zx,jo,List.nil_append]
 | x::a=>by rw[zx,wY,wZ b a,List.cons_append,zx]
def Srt:List Ev->Prop
 | []=>True
 | x::l=>(∀y∈l,ltE y x=false)/\Srt l
theorem Xz {x z:Ev}:∀ {l:List Ev},z∈xY x l↔z=x∨z∈l
 | []=>by simp[xY]
 | y::l=>by
   rw[qp]
   split
   ·simp only[List.mem_cons,Xz (l:=l)]
    constructor<;>(rintro (h | h | h)<;>simp[h])
   ·simp
theorem WT (x:Ev):∀ {l:List Ev},Srt l->Srt (xY x l)
 | [],_=>⟨λy h=>(by cases h),trivial⟩
 | y::l,⟨b,c⟩=>by
   rw[qp]
   split
   ·rename_i h
    refine ⟨λz a=>?_,WT x c⟩
    rcases Xz.1 a with rfl | a
    ·rw[jw];rw[xA] at h;omega
    ·exact b z a
   ·rename_i h
    refine ⟨λz a=>?_,b,c⟩
    rw[Bool.not_eq_true] at h
    rcases List.mem_cons.1 a with rfl | a
    ·exact h
    ·have:=b z a
     rw[jw] at *; omega
theorem xn:∀l,Srt (zx l)
 | []=>trivial
 | x::l=>WT x (xn l)
theorem QR {z:Ev}:∀ {l:List Ev},z∈zx l↔z∈l
 | []=>by simp[zx]
 | x::l=>by rw[zx,Xz,QR,List.mem_cons]
theorem jj {a b:List Ev}:Srt (a++b)↔Srt a/\Srt b/\∀x∈a,∀y∈b,ltE y x=false:=by
 induction a with
 | nil=>simp[Srt]
 | cons x a i=>
   rw[List.cons_append,Srt,i,Srt]
   constructor
   ·rintro ⟨f,h,g,e⟩
    refine ⟨⟨λy c=>f y (List.mem_append_left _ c),h⟩,g,λz d y c=>?_⟩
    rcases List.mem_cons.1 d with rfl | d
    ·exact f y (List.mem_append_right _ c)
    ·exact e z d y c
   ·rintro ⟨⟨f,h⟩,g,e⟩
    refine ⟨λy c=>?_,h,g,λz d y c=>e z (List.mem_cons_of_mem _ d) y c⟩
    rcases List.mem_append.1 c with c | c
    ·exact f y c
    ·exact e x List.mem_cons_self y c
theorem jSa (a b:List Ev):(mergeE a b).length=a.length+b.length:=by
 induction a,b using mergeE.induct with
 | case1 b=>simp[mergeE]
 | case2 a h=>rw[qX];simp
 | case3 x a y b h c=>rw[qm,if_pos h];simp only[List.length_cons] at *; omega
 | case4 x a y b h c=>rw[qm,if_neg h];simp only[List.length_cons] at *; omega
theorem XA:∀(a b c:List Ev),(∀x∈a,∀y∈b,ltE y x=false)->mergeE a b=a++b
 | [],b,_,_=>by rw[jo,List.nil_append]
 | x::a,[],_,_=>by rw[qX,List.append_nil]
 | x::a,y::b,c,h=>by
   rw[qm,if_neg (by rw[h x List.mem_cons_self y List.mem_cons_self];simp),XA a (y::b) c λz d=>h z (List.mem_cons_of_mem _ d),List.cons_append]
theorem yO {a1 a2 b1 b2:List Ev} (f:∀x∈a1,∀y∈b2,ltE y x=false) (e:∀x∈a2,∀y∈b1,ltE y x=true):mergeE (a1++a2) (b1++b2)=mergeE a1 b1++mergeE a2 b2:=by
 induction a1,b1 using mergeE.induct with
 | case1 b=>
   rw[jo,List.nil_append]
   induction b with
   | nil=>rfl
   | cons y b d=>
     cases a2 with
     | nil=>rw[jo,jo]
     | cons x a=>
       rw[List.cons_append,qm,if_pos (e x List.mem_cons_self y List.mem_cons_self),d (λz c w g=>e z c w (List.mem_cons_of_mem _ g)),List.cons_append]
 | case2 a h=>
   rw[qX,List.nil_append]
   clear h e
   induction a with
   | nil=>rfl
   | cons x a d=>
     cases b2 with
     | nil=>rw[qX,qX]
     | cons y b=>
       rw[List.cons_append,qm,if_neg (by rw[f x List.mem_cons_self y List.mem_cons_self];simp),d (λz c=>f z (List.mem_cons_of_mem _ c)),List.cons_append]
 | case3 x a y b h d=>
   rw[List.cons_append,List.cons_append,qm,qm,if_pos h,if_pos h, <-List.cons_append,d f (λz c w g=>e z c w (List.mem_cons_of_mem _ g)),List.cons_append]
 | case4 x a y b h d=>
   rw[List.cons_append,List.cons_append,qm,qm,if_neg h,if_neg h, <-List.cons_append,d (λz c=>f z (List.mem_cons_of_mem _ c)) e,List.cons_append]
theorem XB {a1 a2:List Ev} {x:Ev} (a:∀y∈a1,ltE x y=false) (b:∀y∈a2,ltE x y=true):mergeE (a1++a2) [x]=a1++x::a2:=by
 have:=yO (a1:=a1) (a2:=a2) (b1:=[x]) (b2:=[]) (by simp) (by simpa using b)
 rw[List.append_nil] at this
 rw[this,qX,XA a1 [x] [] (by simpa using a)]
 simp
theorem WU {b1 b2:List Ev} {x:Ev} (a:∀y∈b1,ltE y x=true) (b:∀y∈b2,ltE y x=false):mergeE [x] (b1++b2)=b1++x::b2:=by
 have:=yO (a1:=[]) (a2:=[x]) (b1:=b1) (b2:=b2) (by simp) (by simpa using a)
 rw[List.nil_append] at this
 rw[this,jo,XA [x] b2 [] (by simpa using b)]
 simp
theorem jTa {l:List Ev} {x:Ev}:zx (l++[x])=mergeE (zx l) [x]:=by rw[<-wZ,show zx [x]=[x] from rfl]
theorem WV {a:List Ev} {x z:Ev} (h:Srt (a++[x])) (d:ltE z x=false):∀y∈a++[x],ltE z y=false:=by
 intro y c
 rcases List.mem_append.1 c with b | b
 ·have e:=(jj.1 h).2.2 y b x (by simp)
  rw[jw] at *; omega
 ·rw[List.mem_singleton.1 b];exact d
theorem jUa {a:List Ev} {x z:Ev} (h:Srt (a++[x])) (d:ltE x z=true):∀y∈a++[x],ltE y z=true:=by
 intro y c
 rcases List.mem_append.1 c with b | b
 ·have e:=(jj.1 h).2.2 y b x (by simp)
  rw[jw] at *; rw[xA] at *; omega
 ·rw[List.mem_singleton.1 b];exact d
theorem WW {a:List Ev} {x z:Ev} (h:Srt (x::a)) (d:ltE x z=false):∀y∈x::a,ltE y z=false:=by
 intro y b
 rcases List.mem_cons.1 b with rfl | c
 ·exact d
 ·have e:=h.1 y c
  rw[jw] at *; omega
theorem jVa {a:List Ev} {x z:Ev} (h:Srt (x::a)) (e:ltE z x=true):∀y∈x::a,ltE z y=true:=by
 intro y c
 rcases List.mem_cons.1 c with rfl | d
 ·exact e
 ·have b:=h.1 y d
  rw[jw] at b;rw[xA] at *; omega
theorem wxa {a b c:List Ev} {x y:Ev} {i j:Nat} (d:i=a.length) (e:j=a.length+1+b.length):((a++x::(b++y::c)).set i y).set j x=a++y::(b++x::c):=by
 subst d e
 rw[List.set_append_right _ _ (Nat.le_refl _),Nat.sub_self,List.set_cons_zero,List.set_append_right _ _ (by omega),show a.length+1+b.length - a.length=b.length+1 by omega,List.set_cons_succ,List.set_append_right _ _ (Nat.le_refl _),Nat.sub_self,List.set_cons_zero]
theorem wH {a c:List Ev} {x:Ev} {i:Nat} (b:i=a.length):(a++x::c)[i]? =some x:=by
 subst b
 rw[List.getElem?_append_right (Nat.le_refl _),Nat.sub_self];rfl
def blkE (n:Nat) (l:List Ev):List Ev:=if h:l.length<=n∨n=0 then zx l else zx (l.take n)++blkE n (l.drop n)
termination_by l.length
decreasing_by simp only[List.length_drop];omega
theorem kLa (n:Nat) (l:List Ev):(blkE n l).length=l.length:=by
 induction l using blkE.induct n with
 | case1 l h=>rw[blkE,dif_pos h,qF]
 | case2 l h a=>rw[blkE,dif_neg h,List.length_append,qF,a];simp only[List.length_take,List.length_drop];omega
theorem ws {n:Nat} {l:List Ev} (h:l.length<=n):blkE n l=zx l:=by rw[blkE,dif_pos (.inl h)]
theorem yP {n:Nat} {a l:List Ev} (b:a.length=n) (c:0<n):blkE n (a++l)=zx a++blkE n l:=by
 cases l with
 | nil=>rw[List.append_nil,ws (by omega),ws (by simp),zx,List.append_nil]
 | cons x l=>
   rw[blkE,dif_neg (by simp only[List.length_append,List.length_cons];omega)]
   subst b
   rw[List.take_left,List.drop_left]
set_option maxRecDepth 100000
attribute [go_sem] v7a v8a ty3
abbrev zY (l:List Ev) (st:Nat):Ob:= .row 75 11 (l.map evC) st
theorem qH {l:List Ev} {i:Nat} {x:Ev} (h:l[i]? =some x):(l.map evC)[i]? =some (evC x):=by
 rw[List.getElem?_map,h];rfl
theorem XC:∀(q ns:List AV),q.length=ns.length->lay q 0 ns=some ns
 | [],[],_=>rfl
 | a::q,n::ns,h=>by
   simp only[lay]
   rw[XC q ns (by simpa using h)]
   rfl
 | [],_::_,h=>by cases h
 | _::_,[],h=>by cases h
theorem JX {l:List Ev} {i j:Nat} (e:Ev) (b:j<l.length):∃q,((l.map evC).set i (evC e))[j]? =some q/\∀ns:List AV,ns.length=11->lay q 0 ns=some ns:=by
 by_cases a:i=j
 ·subst a
  exact ⟨evC e,List.getElem?_set_self (by simpa using b),λns h=>XC _ _ h.symm⟩
 ·rw[List.getElem?_set_ne a]
  exact ⟨_,qH (List.getElem?_eq_getElem b),λns h=>XC _ _ h.symm⟩
theorem QS {a b c:List Ev} {x y:Ev} {i j:Nat} {l:List Ev} (e:l=a++x::(b++y::c)) (d:i=a.length) (f:j=a.length+1+b.length):((l.map evC).set i (evC y)).set j (evC x)=(a++y::(b++x::c)).map evC:=by
 rw[<-wxa d f,e,List.map_set,List.map_set]
theorem XD {a b c:List Ev} {x y:Ev} {i j:Nat} {l:List Ev} (e:l=a++x::(b++y::c)) (d:i=a.length) (f:j=a.length+1+b.length):((l.map evC).set j (evC x)).set i (evC y)=(a++y::(b++x::c)).map evC:=by
 rw[List.set_comm _ _ (by omega),QS e d f]
theorem wx {a b:Nat} (h:a+b<4611686018427387904):wr ((a:Int)+(b:Int))=((a+b:Nat):Int):=by rw[zF (by unfold Fit;omega)];rfl
theorem kZ {a b:Nat} (h:b<=a) (c:a<4611686018427387904):wr ((a:Int) - (b:Int))=((a - b:Nat):Int):=by rw[zF (by unfold Fit;omega)];omega
theorem Qt {a:Nat} (h:1<=a) (c:a<4611686018427387904):wr ((a:Int) - 1)=((a - 1:Nat):Int):=kZ (b:=1) h c
theorem zw {k m:Nat} (h:k<9223372036854775807) (a:m=k+1):AV.v (.int .i64 (IntKind.wrap .i64 ((k:Int)+1)))=i64 (m:Int):=by
 rw[show IntKind.wrap .i64 ((k:Int)+1)=((k+1:Nat):Int) from jv h,a]
theorem dlt {a b:Nat} (e:decide ((a:Int)<(b:Int))=true):a<b:=by simpa using e
theorem jk {a b:Nat} (e:decide ((a:Int)<(b:Int))=false):b<=a:=by simpa using e
theorem qFa {l U V:List Ev} {x:Ev} (h:zx l=U++V) (b:∀y∈V,ltE x y=true) (a:∀y∈U,ltE x y=false):zx (l++[x])=U++x::V:=by
 rw[jTa,h,XB a b]
theorem Zla (h:List Ob) (id st a b n:Nat) (P X M Y Q:List Ev) (f:AV) (A:h[id]? =some (zY (P++(X++(M++(Y++Q)))) st)) (W:a=P.length) (K:b=P.length+X.length+M.length) (t:X.length=n) (w:Y.length=n) (J:P.length+X.length+M.length+Y.length<1099511627776):
  ACalls Tryz.prog 299 [.tl id st,i64 a,i64 b,i64 n,f] h λr h'=>r= .tup []/\h'=h.set id (zY (P++(Y++(M++(X++Q)))) st):=by
 refine zf Tryz.f299 [] 38 rfl rfl rfl rfl rfl rfl (by decide) (⟨_,_,⟨rfl,rfl⟩,zK A rfl⟩) λB=>?_
 simp only[go_sem]
 refine zk (by decide) (λm T h'=>∃c s d v,X=c++s/\Y=d++v/\c.length=d.length/\h'=h.set id (zY (P++(d++(s++(M++(c++(v++Q)))))) st)/\T 0= .tl id st/\T 1=i64 a/\T 2=i64 b/\T 3=i64 n/\T 10=i64 c.length/\m=s.length) n
  ⟨[],X,[],Y,rfl,rfl,rfl,by rw[List.nil_append,List.nil_append,zZ A],by simp only[go_sem],by simp only[go_sem],by simp only[go_sem],by simp only[go_sem],by (simp only[go_sem]<;>rfl),t.symm⟩ ?_
 rintro m T h' ⟨c,s,d,v,rfl,rfl,C,rfl,t0,t1,t2,t3,t10,rfl⟩
 simp only[go_sem,t10,t3]
 refine ways (λe=>?_) (λe=>?_)
 ·have z:c.length<n:=by simpa using e
  cases s with
  | nil=>simp at t;omega
  | cons x k=>
  cases v with
  | nil=>simp at w;omega
  | cons y p=>
  simp only[List.length_append,List.length_cons] at t w K J
  have R:∀o,(h.set id o)[id]? =some o:=λo=>zh A
  obtain ⟨l,u⟩:∃l,l=P++(d++(x::k++(M++(c++(y::p++Q))))):=⟨_,rfl⟩
  have g:l=(P++d)++x::((k++(M++c))++y::(p++Q)):=by rw[u];simp
  have D:l.length=P.length+d.length+1+k.length+M.length+c.length+1+p.length+Q.length:=by rw[g];simp;omega
  have F:a+c.length=(P++d).length:=by simp;omega
  have E:b+c.length=(P++d).length+1+(k++(M++c)).length:=by simp;omega
  have H:(l.map evC)[a+c.length]? =some (evC x):=qH (by rw[g];exact wH F)
  have U:(l.map evC)[b+c.length]? =some (evC y):=qH (by
   rw[g,show (P++d)++x::((k++(M++c))++y::(p++Q))=((P++d)++x::(k++(M++c)))++y::(p++Q) by simp]
   exact wH (by rw[E];simp;omega))
  have O:((a+c.length:Nat):Int)<((l.length:Nat):Int):=by omega
  have S:((b+c.length:Nat):Int)<((l.length:Nat):Int):=by omega
  have I:=wx (a:=a) (b:=c.length) (by omega)
  have N:=wx (a:=b) (b:=c.length) (by omega)
  obtain ⟨q,V,L⟩:=JX (l:=l) (i:=a+c.length) (j:=b+c.length) y (by omega)
  have G:=QS g F E
  rw[<-u]
  simp only[go_sem]
  refine zp rfl [] 0 [(0,0,[]),(1,0,[]),(2,0,[]),(3,0,[]),(4,0,[]),(5,0,[]),(6,0,[]),(7,0,[]),(8,0,[]),(9,0,[]),(10,0,[]),(11,0,[]),(14,0,[]),(15,0,[]),(16,0,[]),(17,0,[]),(12,0,[]),(13,0,[]),(18,0,[]),(19,0,[]),(20,0,[]),(21,0,[]),(22,0,[]),(23,0,[])] rfl (by decide) (by decide) ?_
  simp only[go_sem,t1,t2,t10,t0,R,H,U,V,L,O,S,I,N,List.length_map,Int.toNat_natCast,Int.natCast_nonneg,List.set_set]
  refine ⟨k.length,by simp,c++[x],k,d++[y],p,by simp,by simp,by simp[C],?_,t3,?_,rfl⟩
  ·rw[G];exact congrArg (λl=>h.set id (zY l st)) (by simp)
  ·exact zw (by omega) (by simp)
 ·have z:¬ c.length<n:=by simpa using e
  have:s=[]:=List.eq_nil_of_length_eq_zero (by simp at t;omega)
  subst this
  have:v=[]:=List.eq_nil_of_length_eq_zero (by simp at w t;omega)
  subst this
  simp only[go_sem]
  exact ⟨.tup [],by simp only[go_sem],.inl ⟨rfl,by simp⟩⟩
theorem Xaa (h:List Ob) (id st a m b:Nat) (P A D Q:List Ev) (f:AV) (G:h[id]? =some (zY (P++(A++(D++Q))) st)) (Y:a=P.length) (M:m=P.length+A.length) (X:b=P.length+A.length+D.length) (I:0<A.length) (hB:0<D.length) (S:P.length+A.length+D.length<1099511627776):
  ACalls Tryz.prog 283 [.tl id st,i64 a,i64 m,i64 b,f] h λr h'=>r= .tup []/\h'=h.set id (zY (P++(D++(A++Q))) st):=by
 have N:wr ((m:Int) - (a:Int))=(A.length:Int):=by rw[kZ (by omega) (by omega)];omega
 have O:wr ((b:Int) - (m:Int))=(D.length:Int):=by rw[kZ (by omega) (by omega)];omega
 refine zf Tryz.f283 [] 58 rfl rfl rfl rfl rfl rfl (by decide) (⟨_,_,⟨rfl,rfl⟩,zK G rfl⟩) λB=>?_
 simp only[go_sem,N,O]
 refine zk (by decide) (λn T h'=>∃L c d R,P++(D++(A++Q))=L++(d++(c++R))/\L.length+c.length=m/\0<c.length/\0<d.length/\L.length+c.length+d.length<1099511627776/\h'=h.set id (zY (L++(c++(d++R))) st)/\T 0= .tl id st/\T 2=i64 m/\T 4=f/\T 10=i64 c.length/\T 11=i64 d.length/\n=c.length+d.length) (A.length+D.length)
  ⟨P,A,D,Q,rfl,M.symm,I,hB,S,by rw[zZ G],by simp only[go_sem],by simp only[go_sem],by simp only[go_sem],by simp only[go_sem],by simp only[go_sem],rfl⟩ ?_
 rintro n T h' ⟨L,c,d,R,heq,U,W,K,V,rfl,t0,t2,t4,t10,g,rfl⟩
 have F:∀o,(h.set id o)[id]? =some o:=λo=>zh G
 have C:wr ((m:Int) - (c.length:Int))=((m - c.length:Nat):Int):=kZ (by omega) (by omega)
 simp only[go_sem,t10,g]
 refine ways (λe=>?_) (λe=>?_)
 ·simp only[go_sem,t10,g]
  have u:c.length≠d.length:=λk=>by simp[k] at e
  refine ways (λE=>?_) (λE=>?_)
  ·have z:d.length<c.length:=by simpa using E
   obtain ⟨l,s,i,t⟩:∃l s,c=l++s/\l.length=d.length:=⟨c.take d.length,c.drop d.length,(List.take_append_drop _ _).symm,by simp;omega⟩
   have y:wr ((c.length:Int) - (d.length:Int))=((s.length:Nat):Int):=by
    rw[kZ (by omega) (by omega),i,List.length_append];omega
   have w:c.length=l.length+s.length:=by rw[i,List.length_append]
   simp only[go_sem,t0,t2,t4,t10,g,C]
   refine zd (Zla _ id st _ _ _ L l s d R f (by rw[F,i];simp) (by omega) (by omega) t rfl (by omega)) ?_
   rintro _ H ⟨rfl,x⟩
   subst x
   simp only[go_sem,t0,t2,t4,t10,g,y,List.set_set]
   refine ⟨s.length+l.length,by omega,L++d,s,l,R,by rw[heq,i];simp,by simp;omega,by omega,by omega,by simp;omega,by simp,rfl,by rw[t],rfl⟩
  ·have z:c.length<d.length:=by
    have:¬ d.length<c.length:=by simpa using E
    omega
   obtain ⟨q,p,j,v⟩:∃q p,d=q++p/\p.length=c.length:=⟨d.take (d.length - c.length),d.drop (d.length - c.length),(List.take_append_drop _ _).symm,by simp;omega⟩
   have w:d.length=q.length+p.length:=by rw[j,List.length_append]
   have y:wr ((d.length:Int) - (c.length:Int))=((q.length:Nat):Int):=by
    rw[kZ (by omega) (by omega)];omega
   have J:wr (wr ((m:Int)+(d.length:Int)) - (c.length:Int))=((m+d.length - c.length:Nat):Int):=by
    rw[wx (by omega),kZ (by omega) (by omega)]
   simp only[go_sem,t0,t2,t4,t10,g,C,J]
   refine zd (Zla _ id st _ _ _ L c q p R f (by rw[F,j];simp) (by omega) (by omega) rfl v (by omega)) ?_
   rintro _ H ⟨rfl,x⟩
   subst x
   simp only[go_sem,t0,t2,t4,t10,g,y,List.set_set]
   refine ⟨p.length+q.length,by omega,L,p,q,c++R,by rw[heq,j];simp,by omega,by omega,by omega,by omega,by simp,by rw[v],rfl,rfl⟩
 ·have u:c.length=d.length:=by
   have:(c.length:Int)=d.length:=by simpa using e
   omega
  simp only[go_sem,t0,t2,t4,t10,g,C]
  refine zd (Zla _ id st _ _ _ L c [] d R f (by rw[F];simp) (by omega) (by simp only[List.length_nil];omega) rfl u.symm (by simp only[List.length_nil];omega)) ?_
  rintro _ H ⟨rfl,x⟩
  subst x
  simp only[go_sem,List.set_set]
  exact ⟨.tup [],by simp only[go_sem],.inl ⟨rfl,by rw[heq]⟩⟩
theorem QNa (h:List Ob) (id st a b:Nat) (P S Q:List Ev) (F:h[id]? =some (zY (P++(S++Q)) st)) (ha:a=P.length) (D:b=P.length+S.length) (hl:(P++(S++Q)).length<1099511627776):
  ACalls Tryz.prog 237 [.tl id st,i64 a,i64 b,.fn (.func 111) [] []] h λr h'=>r= .tup []/\h'=h.set id (zY (P++(zx S++Q)) st):=by
 have R:∀o,(h.set id o)[id]? =some o:=λo=>zh F
 simp only[List.length_append] at hl
 have w1:wr ((a:Int)+1)=((a+1:Nat):Int):=jv (by omega)
 refine zf Tryz.f237 [] 53 rfl rfl rfl rfl rfl rfl (by decide) (⟨_,_,⟨rfl,rfl⟩,zK F rfl⟩) λB=>?_
 simp only[go_sem,w1]
 refine zk (by decide) (λn T h'=>∃d z,S=d++z/\h'=h.set id (zY (P++(zx d++(z++Q))) st)/\T 0= .tl id st/\T 1=i64 a/\T 2=i64 b/\T 3= .fn (.func 111) [] []/\T 8=i64 (a+d.length+(if S=[] then 1 else 0):Nat)/\n=z.length) (S.length - 1) ?_ ?_
 ·cases S with
  | nil=>exact ⟨[],[],rfl,by rw[zx,List.nil_append,zZ F],by simp only[go_sem],by simp only[go_sem],by simp only[go_sem],by simp only[go_sem],by simp only[go_sem],rfl⟩
  | cons x S=>exact ⟨[x],S,rfl,(zZ F).symm,by simp only[go_sem],by simp only[go_sem],by simp only[go_sem],by simp only[go_sem],by simp only[go_sem],rfl⟩
 rintro n T h' ⟨d,z,s,rfl,t0,t1,t2,t3,t8,rfl⟩
 simp only[go_sem,t8,t2]
 refine ways (λe=>?_) (λe=>?_)
 ·have t:a+d.length+(if S=[] then 1 else 0)<b:=dlt e
  have c:S≠[]:=λk=>by rw[k] at t D;simp at t D;omega
  rw[if_neg c] at t8 t
  cases z with
  | nil=>rw[s] at D;simp at D;omega
  | cons x f=>
  have ε:S.length=d.length+1+f.length:=by rw[s];simp;omega
  have E:=qF d
  simp only[go_sem,t8]
  refine zk (by decide) (λn T h'=>∃U V,zx d=U++V/\(∀y∈V,ltE x y=true)/\h'=h.set id (zY (P++(U++(x::(V++(f++Q))))) st)/\T 0= .tl id st/\T 1=i64 a/\T 2=i64 b/\T 3= .fn (.func 111) [] []/\T 8=i64 (a+d.length:Nat)/\T 9=i64 (a+U.length:Nat)/\n=U.length) (zx d).length
   ⟨zx d,[],by simp,by simp,by simp,by simp only[go_sem,t0],by simp only[go_sem,t1],by simp only[go_sem,t2],by simp only[go_sem,t3],by simp only[go_sem,t8,c],by simp only[go_sem,t8,c,E],rfl⟩ ?_
  rintro n T h' ⟨U,V,g,H,rfl,t0,t1,t2,t3,t8,t9,rfl⟩
  have C:d.length=U.length+V.length:=by rw[<-E,g,List.length_append]
  have A:=zw (k:=a+d.length) (m:=a+(d++[x]).length) (by omega) (by simp;omega)
  rcases List.eq_nil_or_concat U with rfl | ⟨U,u,rfl⟩
  ·simp only[go_sem]
   refine zp rfl [] 0 [(0,0,[]),(1,0,[]),(2,0,[]),(3,0,[]),(4,0,[]),(5,0,[]),(6,0,[]),(9,0,[]),(10,0,[]),(11,0,[]),(7,0,[]),(8,0,[]),(12,0,[]),(13,0,[]),(14,0,[]),(15,0,[]),(16,0,[])] rfl (by decide) (by decide) ?_
   have t9:T 9=i64 (a:Int):=t9
   simp only[go_sem,t9,t1,t8,gt_iff_lt,Int.lt_irrefl,decide_false,beq_self_eq_true,Bool.false_eq_true,Bool.true_eq_false]
   refine ⟨f.length,by simp,d++[x],f,by rw[s];simp,?_,t0,t2,t3,?_,rfl⟩
   ·rw[qFa g H (by simp)];rfl
   ·rw[if_neg c];exact A
  ·rw[List.concat_eq_append] at*
   simp only[List.length_append,List.length_cons,List.length_nil] at C t9
   obtain ⟨l,v⟩:∃l,l=P++(U++[u]++(x::(V++(f++Q)))):=⟨_,rfl⟩
   have p:l=(P++U)++u::([]++x::(V++(f++Q))):=by rw[v];simp
   have O:l.length=P.length+U.length+2+V.length+f.length+Q.length:=by rw[p];simp;omega
   have Y:a+U.length=(P++U).length:=by simp;omega
   have X:a+(U.length+1)=(P++U).length+1+([]:List Ev).length:=by simp;omega
   have L:(l.map evC)[a+U.length]? =some (evC u):=qH (by rw[p];exact wH Y)
   have Z:(l.map evC)[a+(U.length+1)]? =some (evC x):=qH (by
    rw[p,show (P++U)++u::([]++x::(V++(f++Q)))=((P++U)++[u])++x::(V++(f++Q)) by simp]
    exact wH (by rw[X];simp;omega))
   have N:((a+U.length:Nat):Int)<((l.length:Nat):Int):=by omega
   have W:((a+(U.length+1):Nat):Int)<((l.length:Nat):Int):=by omega
   have f1:((a:Nat):Int)<((a+(U.length+1):Nat):Int):=by omega
   have M:wr (((a+(U.length+1):Nat):Int) - 1)=((a+U.length:Nat):Int):=by
    rw[Qt (by omega) (by omega)];omega
   obtain ⟨q,q1,q2⟩:=JX (l:=l) (i:=a+(U.length+1)) (j:=a+U.length) u (by omega)
   have sw:=XD p Y X
   rw[<-v]
   simp only[go_sem]
   refine zp rfl [] 0 [(0,0,[]),(1,0,[]),(2,0,[]),(3,0,[]),(4,0,[]),(5,0,[]),(6,0,[]),(9,0,[]),(10,0,[]),(11,0,[]),(7,0,[]),(8,0,[]),(12,0,[]),(13,0,[]),(14,0,[]),(15,0,[]),(16,0,[])] rfl (by decide) (by decide) ?_
   simp only[go_sem,t9,t1,t0,t3,gt_iff_lt,f1,decide_true,R,L,Z,N,W,M,List.length_map,Int.toNat_natCast,Int.natCast_nonneg,beq_self_eq_true,Bool.false_eq_true,Bool.true_eq_false]
   refine zd (c89 x u _) ?_
   rintro _ h1 ⟨rfl,e3⟩
   subst e3
   simp only[go_sem]
   refine ways (λw=>?_) (λw=>?_)
   ·have w:ltE x u=true:=w
    simp only[go_sem]
    refine zp rfl [] 0 [(0,0,[]),(1,0,[]),(2,0,[]),(3,0,[]),(4,0,[]),(5,0,[]),(6,0,[]),(7,0,[]),(10,0,[]),(11,0,[]),(8,0,[]),(9,0,[]),(12,0,[]),(13,0,[]),(14,0,[]),(15,0,[]),(16,0,[]),(17,0,[])] rfl (by decide) (by decide) ?_
    simp only[go_sem,t9,t1,t0,t3,R,L,Z,q1,q2,N,W,M,List.length_map,Int.toNat_natCast,Int.natCast_nonneg,List.set_set]
    refine ⟨U.length,by simp,U,u::V,by rw[g];simp,λy K=>?_,?_,t2,t8,rfl,rfl⟩
    ·rcases List.mem_cons.1 K with rfl | K
     ·exact w
     ·exact H y K
    ·rw[sw];exact congrArg (λl=>h.set id (zY l st)) (by simp)
   ·have w:ltE x u=false:=w
    simp only[go_sem,t8]
    have I:Srt ((U++[u])++V):=by rw[<-g];exact xn _
    refine ⟨f.length,by simp,d++[x],f,by rw[s];simp,?_,t0,t1,t2,t3,?_,rfl⟩
    ·rw[qFa g H (WV (jj.1 I).1 w),v];exact congrArg (λl=>h.set id (zY l st)) (by simp)
    ·rw[if_neg c];exact A
 ·have G:=jk e
  have J:z=[]:=by
   apply List.eq_nil_of_length_eq_zero
   rw[s,List.length_append] at D
   by_cases c:S=[]
   ·rw[s] at c;simp at c;simp[c]
   ·rw[if_neg c] at G;omega
  subst J
  rw[List.append_nil] at s
  subst s
  simp only[go_sem]
  exact ⟨.tup [],by simp only[go_sem],.inl ⟨rfl,by simp⟩⟩
end Go.Proofs.YtigdlmpjijhpaaaGreat.Ax
