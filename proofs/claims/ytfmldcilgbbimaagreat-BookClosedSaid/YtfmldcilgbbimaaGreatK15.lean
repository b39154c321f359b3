/-
  Joined.
-/
import Derived.Test.YtfmldcilgbbimaaGreatK13
set_option linter.unusedSimpArgs false
set_option linter.unusedVariables false
namespace Go.Proofs.YtfmldcilgbbimaaGreat.Ax
open Go Go.Proofs
instance:Inhabited Ev:=⟨⟨0,0,0,0,0,0,0,0,0,0,0⟩⟩
def ltE (a b:Ev):Bool:=decide (Jia a b<0)
theorem kE (a b:Ev):ltE a b=true↔(a.at_<b.at_∨(a.at_=b.at_/\a.id<b.id)):=by
 simp only[ltE,decide_eq_true_eq]
 unfold Jia zza orI orI orI
 by_cases c:a.at_<b.at_
 ·rw[if_pos c];simp[c]
 ·rw[if_neg c]
  by_cases d:a.at_>b.at_
  ·rw[if_pos d];simp;omega
  ·rw[if_neg d]
   by_cases e:a.id<b.id
   ·rw[if_pos e];simp;omega
   ·rw[if_neg e]
    split<;>simp<;>omega
theorem jQ (a b:Ev):ltE a b=false↔¬ (a.at_<b.at_∨(a.at_=b.at_/\a.id<b.id)):=by
 rw[<-kE,Bool.not_eq_true]
def mergeE:List Ev->List Ev->List Ev
 | [],b=>b
 | a,[]=>a
 | x::a,y::b=>if ltE y x then y::mergeE (x::a) b else x::mergeE a (y::b)
termination_by a b=>a.length+b.length
theorem jH (b:List Ev):mergeE [] b=b:=by rw[mergeE]
theorem jl (a:List Ev):mergeE a []=a:=by cases a<;>simp[mergeE]
theorem qw (x y:Ev) (a b:List Ev):mergeE (x::a) (y::b)=if ltE y x then y::mergeE (x::a) b else x::mergeE a (y::b):=by rw[mergeE]
def xC (x:Ev):List Ev->List Ev
 | []=>[x]
 | y::b=>if ltE y x then y::xC x b else x::y::b
def zD:List Ev->List Ev
 | []=>[]
 | x::l=>xC x (zD l)
theorem qKa (x:Ev):∀l,(xC x l).length=l.length+1
 | []=>rfl
 | y::l=>by
   simp only[xC]
   split
   ·simp[qKa x l]
   ·simp
theorem qT:∀l,(zD l).length=l.length
 | []=>rfl
 | x::l=>by simp[zD,qKa,qT l]
theorem Yt (x:Ev):∀b,mergeE [x] b=xC x b
 | []=>by simp[mergeE,xC]
 | y::b=>by
   rw[qw,xC,jH]
   split
   ·rw[Yt x b]
   ·rfl
theorem qt (x y:Ev) (b:List Ev):xC x (y::b)=if ltE y x then y::xC x b else x::y::b:=rfl
theorem Zg (x:Ev):∀(a b:List Ev),mergeE (xC x a) b=xC x (mergeE a b)
 | [],b=>by rw[jH,xC,Yt]
 | s::a,[]=>by rw[jl,jl]
 | s::a,t::b=>by
   rw[qt]
   by_cases d:ltE s x
   ·rw[if_pos d,qw,qw]
    by_cases c:ltE t s
    ·rw[if_pos c,if_pos c,qt,if_pos (by rw[kE] at *; omega)]
     have:=Zg x (s::a) b
     rw[qt,if_pos d] at this
     rw[this]
    ·rw[if_neg c,if_neg c,qt,if_pos d,Zg x a (t::b)]
   ·rw[if_neg d,qw]
    by_cases c:ltE t x
    ·have e:ltE t s=true:=by
      rw[Bool.not_eq_true,jQ] at d
      rw[kE] at *; omega
     rw[if_pos c,qw,if_pos e,qt,if_pos c]
     have:=Zg x (s::a) b
     rw[qt,if_neg d] at this
     rw[this]
    ·rw[if_neg c,qw]
     split
     ·rw[qt,if_neg c]
     ·rw[qt,if_neg d]
termination_by a b=>a.length+b.length
theorem Zh (b:List Ev):∀a,mergeE (zD a) (zD b)=zD (a++b)
 | []=>by rw[zD,jH,List.nil_append]
 | x::a=>by rw[zD,Zg,Zh b a,List.cons_append,zD]
def Srt:List Ev->Prop
 | []=>True
 | x::l=>(∀y∈l,ltE y x=false)/\Srt l
theorem J8 {x z:Ev}:∀ {l:List Ev},z∈xC x l↔z=x∨z∈l
 | []=>by simp[xC]
 | y::l=>by
   rw[qt]
   split
   ·simp only[List.mem_cons,J8 (l:=l)]
    constructor<;>(rintro (h | h | h)<;>simp[h])
   ·simp
theorem VK (x:Ev):∀ {l:List Ev},Srt l->Srt (xC x l)
 | [],_=>⟨λy h=>(by cases h),trivial⟩
 | y::l,⟨b,c⟩=>by
   rw[qt]
   split
   ·rename_i h
    refine ⟨λz a=>?_,VK x c⟩
    rcases J8.1 a with rfl | a
    ·rw[jQ];rw[kE] at h;omega
    ·exact b z a
   ·rename_i h
    refine ⟨λz a=>?_,b,c⟩
    rw[Bool.not_eq_true] at h
    rcases List.mem_cons.1 a with rfl | a
    ·exact h
    ·have:=b z a
     rw[jQ] at *; omega
theorem jW:∀l,Srt (zD l)
 | []=>trivial
 | x::l=>VK x (jW l)
theorem QN {z:Ev}:∀ {l:List Ev},z∈zD l↔z∈l
 | []=>by simp[zD]
 | x::l=>by rw[zD,J8,QN,List.mem_cons]
theorem qW {a b:List Ev}:Srt (a++b)↔Srt a/\Srt b/\∀x∈a,∀y∈b,ltE y x=false:=by
 induction a with
 | nil=>simp[Srt]
 | cons x a i=>
   rw[List.cons_append,Srt,i,Srt]
   constructor
   ·rintro ⟨f,g,h,e⟩
    refine ⟨⟨λy c=>f y (List.mem_append_left _ c),g⟩,h,λz d y c=>?_⟩
    rcases List.mem_cons.1 d with rfl | d
    ·exact f y (List.mem_append_right _ c)
    ·exact e z d y c
   ·rintro ⟨⟨f,g⟩,h,e⟩
    refine ⟨λy c=>?_,g,h,λz d y c=>e z (List.mem_cons_of_mem _ d) y c⟩
    rcases List.mem_append.1 c with c | c
    ·exact f y c
    ·exact e x List.mem_cons_self y c
theorem wda (a b:List Ev):(mergeE a b).length=a.length+b.length:=by
 induction a,b using mergeE.induct with
 | case1 b=>simp[mergeE]
 | case2 a h=>rw[jl];simp
 | case3 x a y b h c=>rw[qw,if_pos h];simp only[List.length_cons] at *; omega
 | case4 x a y b h c=>rw[qw,if_neg h];simp only[List.length_cons] at *; omega
theorem VL:∀(a b c:List Ev),(∀x∈a,∀y∈b,ltE y x=false)->mergeE a b=a++b
 | [],b,_,_=>by rw[jH,List.nil_append]
 | x::a,[],_,_=>by rw[jl,List.append_nil]
 | x::a,y::b,c,h=>by
   rw[qw,if_neg (by rw[h x List.mem_cons_self y List.mem_cons_self];simp),VL a (y::b) c λz d=>h z (List.mem_cons_of_mem _ d),List.cons_append]
theorem Z6 {a1 a2 b1 b2:List Ev} (f:∀x∈a1,∀y∈b2,ltE y x=false) (e:∀x∈a2,∀y∈b1,ltE y x=true):mergeE (a1++a2) (b1++b2)=mergeE a1 b1++mergeE a2 b2:=by
 induction a1,b1 using mergeE.induct with
 | case1 b=>
   rw[jH,List.nil_append]
   induction b with
   | nil=>rfl
   | cons y b d=>
     cases a2 with
     | nil=>rw[jH,jH]
     | cons x a=>
       rw[List.cons_append,qw,if_pos (e x List.mem_cons_self y List.mem_cons_self),d (λz c w g=>e z c w (List.mem_cons_of_mem _ g)),List.cons_append]
 | case2 a h=>
   rw[jl,List.nil_append]
   clear h e
   induction a with
   | nil=>rfl
   | cons x a d=>
     cases b2 with
     | nil=>rw[jl,jl]
     | cons y b=>
       rw[List.cons_append,qw,if_neg (by rw[f x List.mem_cons_self y List.mem_cons_self];simp),d (λz c=>f z (List.mem_cons_of_mem _ c)),List.cons_append]
 | case3 x a y b h d=>
   rw[List.cons_append,List.cons_append,qw,qw,if_pos h,if_pos h, <-List.cons_append,d f (λz c w g=>e z c w (List.mem_cons_of_mem _ g)),List.cons_append]
 | case4 x a y b h d=>
   rw[List.cons_append,List.cons_append,qw,qw,if_neg h,if_neg h, <-List.cons_append,d (λz c=>f z (List.mem_cons_of_mem _ c)) e,List.cons_append]
theorem VM {a1 a2:List Ev} {x:Ev} (a:∀y∈a1,ltE x y=false) (b:∀y∈a2,ltE x y=true):mergeE (a1++a2) [x]=a1++x::a2:=by
 have:=Z6 (a1:=a1) (a2:=a2) (b1:=[x]) (b2:=[]) (by simp) (by simpa using b)
 rw[List.append_nil] at this
 rw[this,jl,VL a1 [x] [] (by simpa using a)]
 simp
theorem qLa {b1 b2:List Ev} {x:Ev} (a:∀y∈b1,ltE y x=true) (b:∀y∈b2,ltE y x=false):mergeE [x] (b1++b2)=b1++x::b2:=by
 have:=Z6 (a1:=[]) (a2:=[x]) (b1:=b1) (b2:=b2) (by simp) (by simpa using a)
 rw[List.nil_append] at this
 rw[this,jH,VL [x] b2 [] (by simpa using b)]
 simp
theorem wea {l:List Ev} {x:Ev}:zD (l++[x])=mergeE (zD l) [x]:=by rw[<-Zh,show zD [x]=[x] from rfl]
theorem qMa {a:List Ev} {x z:Ev} (h:Srt (a++[x])) (d:ltE z x=false):∀y∈a++[x],ltE z y=false:=by
 intro y c
 rcases List.mem_append.1 c with b | b
 ·have e:=(qW.1 h).2.2 y b x (by simp)
  rw[jQ] at *; omega
 ·rw[List.mem_singleton.1 b];exact d
theorem wfa {a:List Ev} {x z:Ev} (h:Srt (a++[x])) (d:ltE x z=true):∀y∈a++[x],ltE y z=true:=by
 intro y c
 rcases List.mem_append.1 c with b | b
 ·have e:=(qW.1 h).2.2 y b x (by simp)
  rw[jQ] at *; rw[kE] at *; omega
 ·rw[List.mem_singleton.1 b];exact d
theorem qNa {a:List Ev} {x z:Ev} (h:Srt (x::a)) (c:ltE x z=false):∀y∈x::a,ltE y z=false:=by
 intro y b
 rcases List.mem_cons.1 b with rfl | d
 ·exact c
 ·have e:=h.1 y d
  rw[jQ] at *; omega
theorem wga {a:List Ev} {x z:Ev} (h:Srt (x::a)) (c:ltE z x=true):∀y∈x::a,ltE z y=true:=by
 intro y b
 rcases List.mem_cons.1 b with rfl | d
 ·exact c
 ·have e:=h.1 y d
  rw[jQ] at e;rw[kE] at *; omega
theorem Jja {a b c:List Ev} {x y:Ev} {i j:Nat} (e:i=a.length) (d:j=a.length+1+b.length):((a++x::(b++y::c)).set i y).set j x=a++y::(b++x::c):=by
 subst e d
 rw[List.set_append_right _ _ (Nat.le_refl _),Nat.sub_self,List.set_cons_zero,List.set_append_right _ _ (by omega),show a.length+1+b.length - a.length=b.length+1 by omega,List.set_cons_succ,List.set_append_right _ _ (Nat.le_refl _),Nat.sub_self,List.set_cons_zero]
theorem yL {a c:List Ev} {x:Ev} {i:Nat} (b:i=a.length):(a++x::c)[i]? =some x:=by
 subst b
 rw[List.getElem?_append_right (Nat.le_refl _),Nat.sub_self];rfl
def blkE (n:Nat) (l:List Ev):List Ev:=if h:l.length<=n∨n=0 then zD l else zD (l.take n)++blkE n (l.drop n)
termination_by l.length
decreasing_by simp only[List.length_drop];omega
theorem Zga (n:Nat) (l:List Ev):(blkE n l).length=l.length:=by
 induction l using blkE.induct n with
 | case1 l h=>rw[blkE,dif_pos h,qT]
 | case2 l h a=>rw[blkE,dif_neg h,List.length_append,qT,a];simp only[List.length_take,List.length_drop];omega
theorem yo {n:Nat} {l:List Ev} (h:l.length<=n):blkE n l=zD l:=by rw[blkE,dif_pos (.inl h)]
theorem Z7 {n:Nat} {a l:List Ev} (b:a.length=n) (c:0<n):blkE n (a++l)=zD a++blkE n l:=by
 cases l with
 | nil=>rw[List.append_nil,yo (by omega),yo (by simp),zD,List.append_nil]
 | cons x l=>
   rw[blkE,dif_neg (by simp only[List.length_append,List.length_cons];omega)]
   subst b
   rw[List.take_left,List.drop_left]
set_option maxRecDepth 100000
attribute [go_sem] QRa QSa ty3
abbrev qb (l:List Ev) (st:Nat):Ob:= .row 73 11 (l.map evC) st
theorem qX {l:List Ev} {i:Nat} {x:Ev} (h:l[i]? =some x):(l.map evC)[i]? =some (evC x):=by
 rw[List.getElem?_map,h];rfl
theorem VN:∀(q ns:List AV),q.length=ns.length->lay q 0 ns=some ns
 | [],[],_=>rfl
 | a::q,n::ns,h=>by
   simp only[lay]
   rw[VN q ns (by simpa using h)]
   rfl
 | [],_::_,h=>by cases h
 | _::_,[],h=>by cases h
theorem K2 {l:List Ev} {i j:Nat} (e:Ev) (b:j<l.length):∃q,((l.map evC).set i (evC e))[j]? =some q/\∀ns:List AV,ns.length=11->lay q 0 ns=some ns:=by
 by_cases a:i=j
 ·subst a
  exact ⟨evC e,List.getElem?_set_self (by simpa using b),λns h=>VN _ _ h.symm⟩
 ·rw[List.getElem?_set_ne a]
  exact ⟨_,qX (List.getElem?_eq_getElem b),λns h=>VN _ _ h.symm⟩
theorem XL {a b c:List Ev} {x y:Ev} {i j:Nat} {l:List Ev} (e:l=a++x::(b++y::c)) (f:i=a.length) (d:j=a.length+1+b.length):((l.map evC).set i (evC y)).set j (evC x)=(a++y::(b++x::c)).map evC:=by
 rw[<-Jja f d,e,List.map_set,List.map_set]
theorem VO {a b c:List Ev} {x y:Ev} {i j:Nat} {l:List Ev} (e:l=a++x::(b++y::c)) (f:i=a.length) (d:j=a.length+1+b.length):((l.map evC).set j (evC x)).set i (evC y)=(a++y::(b++x::c)).map evC:=by
 rw[List.set_comm _ _ (by omega),XL e f d]
theorem yy {a b:Nat} (h:a+b<4611686018427387904):wr ((a:Int)+(b:Int))=((a+b:Nat):Int):=by rw[zI (by unfold Fit;omega)];rfl
theorem we {a b:Nat} (h:b<=a) (c:a<4611686018427387904):wr ((a:Int) - (b:Int))=((a - b:Nat):Int):=by rw[zI (by unfold Fit;omega)];omega
theorem J9 {a:Nat} (h:1<=a) (c:a<4611686018427387904):wr ((a:Int) - 1)=((a - 1:Nat):Int):=we (b:=1) h c
theorem zx {k m:Nat} (h:k<9223372036854775807) (a:m=k+1):AV.v (.int .i64 (IntKind.wrap .i64 ((k:Int)+1)))=i64 (m:Int):=by
 rw[show IntKind.wrap .i64 ((k:Int)+1)=((k+1:Nat):Int) from jk h,a]
theorem dlt {a b:Nat} (e:decide ((a:Int)<(b:Int))=true):a<b:=by simpa using e
theorem qU {a b:Nat} (e:decide ((a:Int)<(b:Int))=false):b<=a:=by simpa using e
theorem kRa {l U V:List Ev} {x:Ev} (h:zD l=U++V) (b:∀y∈V,ltE x y=true) (a:∀y∈U,ltE x y=false):zD (l++[x])=U++x::V:=by
 rw[wea,h,VM a b]
theorem Ksa (h:List Ob) (id st a b n:Nat) (P X M Y Q:List Ev) (f:AV) (A:h[id]? =some (qb (P++(X++(M++(Y++Q)))) st)) (W:a=P.length) (N:b=P.length+X.length+M.length) (u:X.length=n) (C:Y.length=n) (K:P.length+X.length+M.length+Y.length<1099511627776):
  ACalls Tryz.prog 276 [.tl id st,i64 a,i64 b,i64 n,f] h λr h'=>r= .tup []/\h'=h.set id (qb (P++(Y++(M++(X++Q)))) st):=by
 refine zf Tryz.f276 [] 38 rfl rfl rfl rfl rfl rfl (by decide) (⟨_,_,⟨rfl,rfl⟩,zC A rfl⟩) λB=>?_
 simp only[go_sem]
 refine zj (by decide) (λm T h'=>∃c p d t,X=c++p/\Y=d++t/\c.length=d.length/\h'=h.set id (qb (P++(d++(p++(M++(c++(t++Q)))))) st)/\T 0= .tl id st/\T 1=i64 a/\T 2=i64 b/\T 3=i64 n/\T 10=i64 c.length/\m=p.length) n
  ⟨[],X,[],Y,rfl,rfl,rfl,by rw[List.nil_append,List.nil_append,zT A],by simp only[go_sem],by simp only[go_sem],by simp only[go_sem],by simp only[go_sem],by (simp only[go_sem]<;>rfl),u.symm⟩ ?_
 rintro m T h' ⟨c,p,d,t,rfl,rfl,z,rfl,t0,t1,t2,t3,t10,rfl⟩
 simp only[go_sem,t10,t3]
 refine ways (λe=>?_) (λe=>?_)
 ·have w:c.length<n:=by simpa using e
  cases p with
  | nil=>simp at u;omega
  | cons x k=>
  cases t with
  | nil=>simp at C;omega
  | cons y s=>
  simp only[List.length_append,List.length_cons] at u C N K
  have V:∀o,(h.set id o)[id]? =some o:=λo=>zh A
  obtain ⟨l,v⟩:∃l,l=P++(d++(x::k++(M++(c++(y::s++Q))))):=⟨_,rfl⟩
  have g:l=(P++d)++x::((k++(M++c))++y::(s++Q)):=by rw[v];simp
  have E:l.length=P.length+d.length+1+k.length+M.length+c.length+1+s.length+Q.length:=by rw[g];simp;omega
  have D:a+c.length=(P++d).length:=by simp;omega
  have F:b+c.length=(P++d).length+1+(k++(M++c)).length:=by simp;omega
  have S:(l.map evC)[a+c.length]? =some (evC x):=qX (by rw[g];exact yL D)
  have R:(l.map evC)[b+c.length]? =some (evC y):=qX (by
   rw[g,show (P++d)++x::((k++(M++c))++y::(s++Q))=((P++d)++x::(k++(M++c)))++y::(s++Q) by simp]
   exact yL (by rw[F];simp;omega))
  have O:((a+c.length:Nat):Int)<((l.length:Nat):Int):=by omega
  have I:((b+c.length:Nat):Int)<((l.length:Nat):Int):=by omega
  have G:=yy (a:=a) (b:=c.length) (by omega)
  have U:=yy (a:=b) (b:=c.length) (by omega)
  obtain ⟨q,H,J⟩:=K2 (l:=l) (i:=a+c.length) (j:=b+c.length) y (by omega)
  have L:=XL g D F
  rw[<-v]
  simp only[go_sem]
  refine zn rfl [] 0 [(0,0,[]),(1,0,[]),(2,0,[]),(3,0,[]),(4,0,[]),(5,0,[]),(6,0,[]),(7,0,[]),(8,0,[]),(9,0,[]),(10,0,[]),(11,0,[]),(14,0,[]),(15,0,[]),(16,0,[]),(17,0,[]),(12,0,[]),(13,0,[]),(18,0,[]),(19,0,[]),(20,0,[]),(21,0,[]),(22,0,[]),(23,0,[])] rfl (by decide) (by decide) ?_
  simp only[go_sem,t1,t2,t10,t0,V,S,R,H,J,O,I,G,U,List.length_map,Int.toNat_natCast,Int.natCast_nonneg,List.set_set]
  refine ⟨k.length,by simp,c++[x],k,d++[y],s,by simp,by simp,by simp[z],?_,t3,?_,rfl⟩
  ·rw[L];exact congrArg (λl=>h.set id (qb l st)) (by simp)
  ·exact zx (by omega) (by simp)
 ·have w:¬ c.length<n:=by simpa using e
  have:p=[]:=List.eq_nil_of_length_eq_zero (by simp at u;omega)
  subst this
  have:t=[]:=List.eq_nil_of_length_eq_zero (by simp at C u;omega)
  subst this
  simp only[go_sem]
  exact ⟨.tup [],by simp only[go_sem],.inl ⟨rfl,by simp⟩⟩
theorem YTa (h:List Ob) (id st a m b:Nat) (P A D Q:List Ev) (f:AV) (C:h[id]? =some (qb (P++(A++(D++Q))) st)) (Y:a=P.length) (J:m=P.length+A.length) (X:b=P.length+A.length+D.length) (I:0<A.length) (hB:0<D.length) (O:P.length+A.length+D.length<1099511627776):
  ACalls Tryz.prog 261 [.tl id st,i64 a,i64 m,i64 b,f] h λr h'=>r= .tup []/\h'=h.set id (qb (P++(D++(A++Q))) st):=by
 have K:wr ((m:Int) - (a:Int))=(A.length:Int):=by rw[we (by omega) (by omega)];omega
 have N:wr ((b:Int) - (m:Int))=(D.length:Int):=by rw[we (by omega) (by omega)];omega
 refine zf Tryz.f261 [] 58 rfl rfl rfl rfl rfl rfl (by decide) (⟨_,_,⟨rfl,rfl⟩,zC C rfl⟩) λB=>?_
 simp only[go_sem,K,N]
 refine zj (by decide) (λn T h'=>∃L c d R,P++(D++(A++Q))=L++(d++(c++R))/\L.length+c.length=m/\0<c.length/\0<d.length/\L.length+c.length+d.length<1099511627776/\h'=h.set id (qb (L++(c++(d++R))) st)/\T 0= .tl id st/\T 2=i64 m/\T 4=f/\T 10=i64 c.length/\T 11=i64 d.length/\n=c.length+d.length) (A.length+D.length)
  ⟨P,A,D,Q,rfl,J.symm,I,hB,O,by rw[zT C],by simp only[go_sem],by simp only[go_sem],by simp only[go_sem],by simp only[go_sem],by simp only[go_sem],rfl⟩ ?_
 rintro n T h' ⟨L,c,d,R,heq,W,V,S,U,rfl,t0,t2,t4,t10,g,rfl⟩
 have G:∀o,(h.set id o)[id]? =some o:=λo=>zh C
 have y:wr ((m:Int) - (c.length:Int))=((m - c.length:Nat):Int):=we (by omega) (by omega)
 simp only[go_sem,t10,g]
 refine ways (λe=>?_) (λe=>?_)
 ·simp only[go_sem,t10,g]
  have v:c.length≠d.length:=λk=>by simp[k] at e
  refine ways (λE=>?_) (λE=>?_)
  ·have F:d.length<c.length:=by simpa using E
   obtain ⟨q,j,i,w⟩:∃q j,c=q++j/\q.length=d.length:=⟨c.take d.length,c.drop d.length,(List.take_append_drop _ _).symm,by simp;omega⟩
   have z:wr ((c.length:Int) - (d.length:Int))=((j.length:Nat):Int):=by
    rw[we (by omega) (by omega),i,List.length_append];omega
   have x:c.length=q.length+j.length:=by rw[i,List.length_append]
   simp only[go_sem,t0,t2,t4,t10,g,y]
   refine zc (Ksa _ id st _ _ _ L q j d R f (by rw[G,i];simp) (by omega) (by omega) w rfl (by omega)) ?_
   rintro _ H ⟨rfl,t⟩
   subst t
   simp only[go_sem,t0,t2,t4,t10,g,z,List.set_set]
   refine ⟨j.length+q.length,by omega,L++d,j,q,R,by rw[heq,i];simp,by simp;omega,by omega,by omega,by simp;omega,by simp,rfl,by rw[w],rfl⟩
  ·have F:c.length<d.length:=by
    have:¬ d.length<c.length:=by simpa using E
    omega
   obtain ⟨p,l,s,u⟩:∃p l,d=p++l/\l.length=c.length:=⟨d.take (d.length - c.length),d.drop (d.length - c.length),(List.take_append_drop _ _).symm,by simp;omega⟩
   have x:d.length=p.length+l.length:=by rw[s,List.length_append]
   have z:wr ((d.length:Int) - (c.length:Int))=((p.length:Nat):Int):=by
    rw[we (by omega) (by omega)];omega
   have M:wr (wr ((m:Int)+(d.length:Int)) - (c.length:Int))=((m+d.length - c.length:Nat):Int):=by
    rw[yy (by omega),we (by omega) (by omega)]
   simp only[go_sem,t0,t2,t4,t10,g,y,M]
   refine zc (Ksa _ id st _ _ _ L c p l R f (by rw[G,s];simp) (by omega) (by omega) rfl u (by omega)) ?_
   rintro _ H ⟨rfl,t⟩
   subst t
   simp only[go_sem,t0,t2,t4,t10,g,z,List.set_set]
   refine ⟨l.length+p.length,by omega,L,l,p,c++R,by rw[heq,s];simp,by omega,by omega,by omega,by omega,by simp,by rw[u],rfl,rfl⟩
 ·have v:c.length=d.length:=by
   have:(c.length:Int)=d.length:=by simpa using e
   omega
  simp only[go_sem,t0,t2,t4,t10,g,y]
  refine zc (Ksa _ id st _ _ _ L c [] d R f (by rw[G];simp) (by omega) (by simp only[List.length_nil];omega) rfl v.symm (by simp only[List.length_nil];omega)) ?_
  rintro _ H ⟨rfl,t⟩
  subst t
  simp only[go_sem,List.set_set]
  exact ⟨.tup [],by simp only[go_sem],.inl ⟨rfl,by rw[heq]⟩⟩
theorem Wfa (h:List Ob) (id st a b:Nat) (P S Q:List Ev) (F:h[id]? =some (qb (P++(S++Q)) st)) (ha:a=P.length) (E:b=P.length+S.length) (hl:(P++(S++Q)).length<1099511627776):
  ACalls Tryz.prog 215 [.tl id st,i64 a,i64 b,.fn (.func 97) [] []] h λr h'=>r= .tup []/\h'=h.set id (qb (P++(zD S++Q)) st):=by
 have X:∀o,(h.set id o)[id]? =some o:=λo=>zh F
 simp only[List.length_append] at hl
 have w1:wr ((a:Int)+1)=((a+1:Nat):Int):=jk (by omega)
 refine zf Tryz.f215 [] 53 rfl rfl rfl rfl rfl rfl (by decide) (⟨_,_,⟨rfl,rfl⟩,zC F rfl⟩) λB=>?_
 simp only[go_sem,w1]
 refine zj (by decide) (λn T h'=>∃d z,S=d++z/\h'=h.set id (qb (P++(zD d++(z++Q))) st)/\T 0= .tl id st/\T 1=i64 a/\T 2=i64 b/\T 3= .fn (.func 97) [] []/\T 8=i64 (a+d.length+(if S=[] then 1 else 0):Nat)/\n=z.length) (S.length - 1) ?_ ?_
 ·cases S with
  | nil=>exact ⟨[],[],rfl,by rw[zD,List.nil_append,zT F],by simp only[go_sem],by simp only[go_sem],by simp only[go_sem],by simp only[go_sem],by simp only[go_sem],rfl⟩
  | cons x S=>exact ⟨[x],S,rfl,(zT F).symm,by simp only[go_sem],by simp only[go_sem],by simp only[go_sem],by simp only[go_sem],by simp only[go_sem],rfl⟩
 rintro n T h' ⟨d,z,s,rfl,t0,t1,t2,t3,t8,rfl⟩
 simp only[go_sem,t8,t2]
 refine ways (λe=>?_) (λe=>?_)
 ·have t:a+d.length+(if S=[] then 1 else 0)<b:=dlt e
  have c:S≠[]:=λk=>by rw[k] at t E;simp at t E;omega
  rw[if_neg c] at t8 t
  cases z with
  | nil=>rw[s] at E;simp at E;omega
  | cons x g=>
  have ζ:S.length=d.length+1+g.length:=by rw[s];simp;omega
  have C:=qT d
  simp only[go_sem,t8]
  refine zj (by decide) (λn T h'=>∃U V,zD d=U++V/\(∀y∈V,ltE x y=true)/\h'=h.set id (qb (P++(U++(x::(V++(g++Q))))) st)/\T 0= .tl id st/\T 1=i64 a/\T 2=i64 b/\T 3= .fn (.func 97) [] []/\T 8=i64 (a+d.length:Nat)/\T 9=i64 (a+U.length:Nat)/\n=U.length) (zD d).length
   ⟨zD d,[],by simp,by simp,by simp,by simp only[go_sem,t0],by simp only[go_sem,t1],by simp only[go_sem,t2],by simp only[go_sem,t3],by simp only[go_sem,t8,c],by simp only[go_sem,t8,c,C],rfl⟩ ?_
  rintro n T h' ⟨U,V,f,G,rfl,t0,t1,t2,t3,t8,t9,rfl⟩
  have D:d.length=U.length+V.length:=by rw[<-C,f,List.length_append]
  have A:=zx (k:=a+d.length) (m:=a+(d++[x]).length) (by omega) (by simp;omega)
  rcases List.eq_nil_or_concat U with rfl | ⟨U,u,rfl⟩
  ·simp only[go_sem]
   refine zn rfl [] 0 [(0,0,[]),(1,0,[]),(2,0,[]),(3,0,[]),(4,0,[]),(5,0,[]),(6,0,[]),(9,0,[]),(10,0,[]),(11,0,[]),(7,0,[]),(8,0,[]),(12,0,[]),(13,0,[]),(14,0,[]),(15,0,[]),(16,0,[])] rfl (by decide) (by decide) ?_
   have t9:T 9=i64 (a:Int):=t9
   simp only[go_sem,t9,t1,t8,gt_iff_lt,Int.lt_irrefl,decide_false,beq_self_eq_true,Bool.false_eq_true,Bool.true_eq_false]
   refine ⟨g.length,by simp,d++[x],g,by rw[s];simp,?_,t0,t2,t3,?_,rfl⟩
   ·rw[kRa f G (by simp)];rfl
   ·rw[if_neg c];exact A
  ·rw[List.concat_eq_append] at*
   simp only[List.length_append,List.length_cons,List.length_nil] at D t9
   obtain ⟨l,w⟩:∃l,l=P++(U++[u]++(x::(V++(g++Q)))):=⟨_,rfl⟩
   have p:l=(P++U)++u::([]++x::(V++(g++Q))):=by rw[w];simp
   have Y:l.length=P.length+U.length+2+V.length+g.length+Q.length:=by rw[p];simp;omega
   have L:a+U.length=(P++U).length:=by simp;omega
   have Z:a+(U.length+1)=(P++U).length+1+([]:List Ev).length:=by simp;omega
   have R:(l.map evC)[a+U.length]? =some (evC u):=qX (by rw[p];exact yL L)
   have O:(l.map evC)[a+(U.length+1)]? =some (evC x):=qX (by
    rw[p,show (P++U)++u::([]++x::(V++(g++Q)))=((P++U)++[u])++x::(V++(g++Q)) by simp]
    exact yL (by rw[Z];simp;omega))
   have N:((a+U.length:Nat):Int)<((l.length:Nat):Int):=by omega
   have M:((a+(U.length+1):Nat):Int)<((l.length:Nat):Int):=by omega
   have f1:((a:Nat):Int)<((a+(U.length+1):Nat):Int):=by omega
   have W:wr (((a+(U.length+1):Nat):Int) - 1)=((a+U.length:Nat):Int):=by
    rw[J9 (by omega) (by omega)];omega
   obtain ⟨q,q1,q2⟩:=K2 (l:=l) (i:=a+(U.length+1)) (j:=a+U.length) u (by omega)
   have sw:=VO p L Z
   rw[<-w]
   simp only[go_sem]
   refine zn rfl [] 0 [(0,0,[]),(1,0,[]),(2,0,[]),(3,0,[]),(4,0,[]),(5,0,[]),(6,0,[]),(9,0,[]),(10,0,[]),(11,0,[]),(7,0,[]),(8,0,[]),(12,0,[]),(13,0,[]),(14,0,[]),(15,0,[]),(16,0,[])] rfl (by decide) (by decide) ?_
   simp only[go_sem,t9,t1,t0,t3,gt_iff_lt,f1,decide_true,X,R,O,N,M,W,List.length_map,Int.toNat_natCast,Int.natCast_nonneg,beq_self_eq_true,Bool.false_eq_true,Bool.true_eq_false]
   refine zc (c89 x u _) ?_
   rintro _ h1 ⟨rfl,e3⟩
   subst e3
   simp only[go_sem]
   refine ways (λv=>?_) (λv=>?_)
   ·have v:ltE x u=true:=v
    simp only[go_sem]
    refine zn rfl [] 0 [(0,0,[]),(1,0,[]),(2,0,[]),(3,0,[]),(4,0,[]),(5,0,[]),(6,0,[]),(7,0,[]),(10,0,[]),(11,0,[]),(8,0,[]),(9,0,[]),(12,0,[]),(13,0,[]),(14,0,[]),(15,0,[]),(16,0,[]),(17,0,[])] rfl (by decide) (by decide) ?_
    simp only[go_sem,t9,t1,t0,t3,X,R,O,q1,q2,N,M,W,List.length_map,Int.toNat_natCast,Int.natCast_nonneg,List.set_set]
    refine ⟨U.length,by simp,U,u::V,by rw[f];simp,λy K=>?_,?_,t2,t8,rfl,rfl⟩
    ·rcases List.mem_cons.1 K with rfl | K
     ·exact v
     ·exact G y K
    ·rw[sw];exact congrArg (λl=>h.set id (qb l st)) (by simp)
   ·have v:ltE x u=false:=v
    simp only[go_sem,t8]
    have H:Srt ((U++[u])++V):=by rw[<-f];exact jW _
    refine ⟨g.length,by simp,d++[x],g,by rw[s];simp,?_,t0,t1,t2,t3,?_,rfl⟩
    ·rw[kRa f G (qMa (qW.1 H).1 v),w];exact congrArg (λl=>h.set id (qb l st)) (by simp)
    ·rw[if_neg c];exact A
 ·have J:=qU e
  have I:z=[]:=by
   apply List.eq_nil_of_length_eq_zero
   rw[s,List.length_append] at E
   by_cases c:S=[]
   ·rw[s] at c;simp at c;simp[c]
   ·rw[if_neg c] at J;omega
  subst I
  rw[List.append_nil] at s
  subst s
  simp only[go_sem]
  exact ⟨.tup [],by simp only[go_sem],.inl ⟨rfl,by simp⟩⟩
end Go.Proofs.YtfmldcilgbbimaaGreat.Ax
