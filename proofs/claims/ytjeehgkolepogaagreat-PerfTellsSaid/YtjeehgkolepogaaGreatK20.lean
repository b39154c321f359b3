import Derived.Test.YtjeehgkolepogaaGreatK19
set_option linter.all false
namespace Go.Proofs.YtjeehgkolepogaaGreat.Ax
open Go Go.Proofs
set_option maxRecDepth 100000
attribute [go_sem] v6a waa wra
structure Spn where
 from_:Int
 to_:Int
abbrev qF(x:Spn):List AV:=[i64 x.from_,i64 x.to_]
def X6{α:Type}{a b:List α}{k:Nat}{x:α}(h:a.take k=b.take k)(c:a[k]? =some x)(d:b[k]? =some x):a.take (k+1)=b.take (k+1):=by
 rw[List.take_add_one,List.take_add_one,h,c,d]
def Y0{α:Type}{a b:List α}{k:Nat}{x y:α}(c:a[k]? =some x)(e:b[k]? =some y)(d:x≠y):a≠b:=λh=>by
 rw[h,e] at c;injection c with c;exact d c.symm
def yI(x:Seg):Int × Int × Int × Int × Int:=(x.from_,x.to_,x.kind,x.id,x.code)
def c33(h:List Ob)(x y:AV)(a b:List Seg)(j:SlOf h x 5 (a.map qU))(l:SlOf h y 5 (b.map qU))(G:a.length<1099511627776)(F:b.length<1099511627776):
    ACalls Tryz.prog 15 [x,y] h λr h'=>r=bl (decide (a.map yI=b.map yI))/\h'=h:=by
 refine enterQX Tryz.f15 λB=>?_;simp only[go_sem,j.rows,l.rows,zc];refine ways (λe=>?_) (λe=>?_)
 ·refine zz ?_
  have f:a.map yI≠b.map yI:=λq=>by
   have:=congrArg List.length q;simp at this;simp[this] at e
  exact zm (by simp only[go_sem,decide_eq_false f]<;>try rfl)
 ·have u:a.length=b.length:=by
   have:(a.length:Int)=b.length:=(by simpa using e);omega
  refine zz ?_
  refine wp_loop_a ze (λm T h'=>h'=h/\∃k:Nat,k<=a.length/\(a.map yI).take k=(b.map yI).take k/\T 0=x/\T 1=y/\T 5=i64 k/\m=a.length - k) a.length
   ⟨rfl,0,zb,rfl,zo,zo,by(simp only[go_sem]<;>rfl),rfl⟩ ?_
  rintro m T h' ⟨rfl,k,H,heq,t0,t1,t5,rfl⟩;simp only[go_sem,t5,t0,j.rows,zc];refine ways (λe=>?_) (λe=>?_)
  ·have d:=dlt e;have c:k<b.length:=zb;have z:=j.at (i:=k) (by simpa using d);have D:=l.at (i:=k) (by simpa using c);have A:(a.map qU)[k]? =some (qU a[k]):=(by rw[zw,zg d];rfl);have E:(b.map qU)[k]? =some (qU b[k]):=(by rw[zw,zg c];rfl);have p:(a.map yI)[k]? =some (yI a[k]):=(by rw[zw,zg d];rfl);have o:(b.map yI)[k]? =some (yI b[k]):=(by rw[zw,zg c];rfl);have v:=jr d;have C:=jr c;refine zz ?_;refine zZ [] 0 (oF [0,1,4,5,2,3,6,7,8] ([])) ?_;simp only[go_sem,t5,t0,t1,j.rows,l.rows,z,D,A,E,v,C,zc,Int.toNat_natCast,zd];refine ways (λn=>?_) (λn=>?_)
   ·have f:yI a[k]≠yI b[k]:=λq=>by
     simp only[yI,Prod.mk.injEq] at q;simp[q] at n
    refine zz ?_;exact zm (by simp only[go_sem,decide_eq_false (Y0 p o f)]<;>try rfl)
   ·have t:yI a[k]=yI b[k]:=by
     simp only[yI,Prod.mk.injEq];simpa using n
    simp only[go_sem,t5];exact⟨a.length - (k+1),zb,k+1,zb,X6 heq p (by rw[t];exact o),t0,t1,qh zb rfl,rfl⟩
  ·have w:=jO e;have s:k=a.length:=zb
   have g:a.map yI=b.map yI:=by
    rw[List.take_of_length_le zE,List.take_of_length_le zE] at heq;exact heq
   refine zz ?_;exact zm (by simp only[go_sem,decide_eq_true g]<;>try rfl)
def yJ(x:Spn):Int × Int:=(x.from_,x.to_)
def c35(h:List Ob)(x y:AV)(a b:List Spn)(j:SlOf h x 2 (a.map qF))(l:SlOf h y 2 (b.map qF))(G:a.length<1099511627776)(F:b.length<1099511627776):
    ACalls Tryz.prog 17 [x,y] h λr h'=>r=bl (decide (a.map yJ=b.map yJ))/\h'=h:=by
 refine enterQX Tryz.f17 λB=>?_;simp only[go_sem,j.rows,l.rows,zc];refine ways (λe=>?_) (λe=>?_)
 ·refine zz ?_
  have f:a.map yJ≠b.map yJ:=λq=>by
   have:=congrArg List.length q;simp at this;simp[this] at e
  exact zm (by simp only[go_sem,decide_eq_false f]<;>try rfl)
 ·have u:a.length=b.length:=by
   have:(a.length:Int)=b.length:=(by simpa using e);omega
  refine zz ?_
  refine wp_loop_a ze (λm T h'=>h'=h/\∃k:Nat,k<=a.length/\(a.map yJ).take k=(b.map yJ).take k/\T 0=x/\T 1=y/\T 5=i64 k/\m=a.length - k) a.length
   ⟨rfl,0,zb,rfl,zo,zo,by(simp only[go_sem]<;>rfl),rfl⟩ ?_
  rintro m T h' ⟨rfl,k,H,heq,t0,t1,t5,rfl⟩;simp only[go_sem,t5,t0,j.rows,zc];refine ways (λe=>?_) (λe=>?_)
  ·have d:=dlt e;have c:k<b.length:=zb;have z:=j.at (i:=k) (by simpa using d);have D:=l.at (i:=k) (by simpa using c);have A:(a.map qF)[k]? =some (qF a[k]):=(by rw[zw,zg d];rfl);have E:(b.map qF)[k]? =some (qF b[k]):=(by rw[zw,zg c];rfl);have p:(a.map yJ)[k]? =some (yJ a[k]):=(by rw[zw,zg d];rfl);have o:(b.map yJ)[k]? =some (yJ b[k]):=(by rw[zw,zg c];rfl);have v:=jr d;have C:=jr c;refine zz ?_;refine zZ [] 0 (oF [0,1,4,5,2,3,6,7,8] ([])) ?_;simp only[go_sem,t5,t0,t1,j.rows,l.rows,z,D,A,E,v,C,zc,Int.toNat_natCast,zd];refine ways (λn=>?_) (λn=>?_)
   ·have f:yJ a[k]≠yJ b[k]:=λq=>by
     simp only[yJ,Prod.mk.injEq] at q;simp[q] at n
    refine zz ?_;exact zm (by simp only[go_sem,decide_eq_false (Y0 p o f)]<;>try rfl)
   ·have t:yJ a[k]=yJ b[k]:=by
     simp only[yJ,Prod.mk.injEq];simpa using n
    simp only[go_sem,t5];exact⟨a.length - (k+1),zb,k+1,zb,X6 heq p (by rw[t];exact o),t0,t1,qh zb rfl,rfl⟩
  ·have w:=jO e;have s:k=a.length:=zb
   have g:a.map yJ=b.map yJ:=by
    rw[List.take_of_length_le zE,List.take_of_length_le zE] at heq;exact heq
   refine zz ?_;exact zm (by simp only[go_sem,decide_eq_true g]<;>try rfl)
attribute [go_sem] xRa xTa qMa zBa qNa
def V4(s:Setup):Bool:=decide (s.ways.length<=100/\s.elements.length<=100/\s.classes.length<=100/\s.gears.length<=100/\s.rates.length<=100/\s.tiers.length<=100)
def c25(h:List Ob)(s:Setup)(a:SA)(k:SIn h s a):ACalls Tryz.prog 23 [qE s a] h λr h'=>r=bl (V4 s)/\h'=h:=by
 have f:∀M,zI (h++M) a.w=_:=λM=>(k.app M).w.rows;have l:∀M,zI (h++M) a.e=_:=λM=>(k.app M).e.rows;have m:∀M,zI (h++M) a.c=_:=λM=>(k.app M).c.rows;have b:∀M,zI (h++M) a.g=_:=λM=>(k.app M).g.rows;have d:∀M,zI (h++M) a.r=_:=λM=>(k.app M).r.rows;have j:∀M,zI (h++M) a.t=_:=λM=>(k.app M).t.rows;refine enterQX Tryz.f23 λB=>?_;simp only[go_sem,k.w.one,k.e.one,k.c.one,k.g.one,k.r.one,k.t.one,f,l,m,b,d,j,zc,vn]
 have i:decide (max (max (max (max (max (s.ways.length:Int) s.elements.length) s.classes.length) s.gears.length) s.rates.length) (s.tiers.length:Int)<=100)=V4 s:=by
  unfold V4;exact decide_eq_decide.2 zb
 rw[<-i];exact qt
def qoa(n:Nat)(s:Setup)(l:List Ev):Bool:=V4 s && decide (l.length<=n)
def c29(h:List Ob)(s:Setup)(a:SA)(k:SIn h s a)(x:AV)(l:List Ev)(f:SlOf h x 11 (l.map evC)):ACalls Tryz.prog 12 [qE s a,x] h λr h'=>r=bl (qoa 100 s l)/\h'=h:=by
 refine enterQX Tryz.f12 λB=>?_;simp only[go_sem,k.w.one,k.e.one,k.c.one,k.g.one,k.r.one,k.t.one];refine qx (c25 _ s a (k.app _)) ?_;have i:∀M,zI (h++M) x=_:=λM=>(f.app M).rows;have d:decide ((l.length:Int)<=100)=decide (l.length<=100):=decide_eq_decide.2 zb;cases b:V4 s with
 | false=>
   simp only[go_sem,b,qv];exact zm (by simp only[go_sem,qoa,b,Bool.false_and]<;>try rfl)
 | true=>
   simp only[go_sem,b,qv,i,zc,d];exact zm (by simp only[go_sem,qoa,b,Bool.true_and]<;>try rfl)
