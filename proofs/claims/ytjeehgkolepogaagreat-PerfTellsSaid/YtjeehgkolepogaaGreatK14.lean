import Derived.Test.YtjeehgkolepogaaGreatK13
set_option linter.all false
namespace Go.Proofs.YtjeehgkolepogaaGreat.Ax
open Go Go.Proofs
set_option maxRecDepth 100000
def jW(e:Ev):Bool:=if e.kind=3 then !decide (e.from_<0) && (!decide (e.to_<0) && (!decide (e.element<0) && (!decide (e.units<0) && (!decide (e.class_<0) && (!decide (e.gear<0) && e.code==0)))))
 else if e.kind=4 then !decide (e.code<0) && (e.from_==0 && (e.to_==0 && (e.element==0 && (e.units==0 && (e.class_==0 && e.gear==0)))))
 else e.from_==0 && (e.to_==0 && (e.element==0 && (e.units==0 && (e.class_==0 && (e.gear==0 && e.code==0)))))
def qV(e:Ev):Bool:= !(!ZL e.kind) && (!(!vW e.id 100000) && (!decide (e.worker<0) && (!(!vW e.at_ 31449599) && jW e)))
def wCa(e:Ev)(g:e.kind=3):js Tryz.prog 97 [evV e] (bl (qV e)):=λh=>by
 refine enterSX Tryz.f97 λB=>?_;refine zl (c71 _ _ e zo) ?_;rintro _ q ⟨L,x,n,rfl,p⟩;subst n
 have f:∀o,zI (h++(o::L)) x=some (xZ h.length e.kind):=λo=>by
  have:=(p (h++[o]) zh).rows;rw[zq] at this;exact this
 have j:∀o,xZ h.length e.kind≠[]->eOf (h++(o::L)) x=some 1:=λo r=>by
  have:=(p (h++[o]) zh).ee r;rw[zq] at this;exact this
 simp only[xZ,g,if_true,if_false,ne_eq,reduceCtorEq,not_false_eq_true,true_implies] at f j;refine zz ?_;refine ways (λa=>?_) (λa=>?_);rotate_left
 ·have a:=ju a;simp only[go_sem,a];exact zm (by simp only[go_sem,qV,a]<;>try rfl)
 have a:=jv a;simp only[go_sem,a];refine zl (c72 e.id 100000 _) ?_;rintro _ q ⟨rfl,n⟩;subst n;simp only[go_sem,a];refine ways (λb=>?_) (λb=>?_);rotate_left
 ·have b:=ju b;simp only[go_sem,a,b];exact zm (by simp only[go_sem,qV,a,b]<;>try rfl)
 have b:=jv b;simp only[go_sem,a,b];refine ways (λc=>?_) (λc=>?_);rotate_left
 ·have c:=ju c;simp only[go_sem,a,b,c];exact zm (by simp only[go_sem,qV,a,b,c]<;>try rfl)
 have c:=jv c;simp only[go_sem,a,b,c];refine qx (c72 e.at_ 31449599 _) ?_;simp only[go_sem,a,b,c];refine ways (λd=>?_) (λd=>?_)
 ·refine zz ?_;exact zm (by simp only[go_sem,qV,a,b,c,d]<;>try rfl)
 simp only[go_sem,f];refine vl 7 (jI ze ?_);simp only[go_sem,f,j];refine ways (λf0=>?_) (λf0=>?_)
 ·refine zz ?_;exact zm (by simp only[go_sem,qV,jW,g,a,b,c,d,f0]<;>try rfl)
 refine zz ?_;refine jI ze ?_;simp only[go_sem,f,j];refine ways (λi=>?_) (λi=>?_)
 ·refine zz ?_;exact zm (by simp only[go_sem,qV,jW,g,a,b,c,d,f0,i]<;>try rfl)
 refine zz ?_;refine jI ze ?_;simp only[go_sem,f,j];refine ways (λk=>?_) (λk=>?_)
 ·refine zz ?_;exact zm (by simp only[go_sem,qV,jW,g,a,b,c,d,f0,i,k]<;>try rfl)
 refine zz ?_;refine jI ze ?_;simp only[go_sem,f,j];refine ways (λl=>?_) (λl=>?_)
 ·refine zz ?_;exact zm (by simp only[go_sem,qV,jW,g,a,b,c,d,f0,i,k,l]<;>try rfl)
 refine zz ?_;refine jI ze ?_;simp only[go_sem,f,j];refine ways (λm=>?_) (λm=>?_)
 ·refine zz ?_;exact zm (by simp only[go_sem,qV,jW,g,a,b,c,d,f0,i,k,l,m]<;>try rfl)
 refine zz ?_;refine jI ze ?_;simp only[go_sem,f,j];refine ways (λf5=>?_) (λf5=>?_)
 ·refine zz ?_;exact zm (by simp only[go_sem,qV,jW,g,a,b,c,d,f0,i,k,l,m,f5]<;>try rfl)
 refine zz ?_;refine jI ze ?_;refine zz ?_;exact zm (by simp only[go_sem,qV,jW,g,a,b,c,d,f0,i,k,l,m,f5]<;>try rfl)
def wDa(e:Ev)(d:¬ e.kind=3)(j:e.kind=4):js Tryz.prog 97 [evV e] (bl (qV e)):=λh=>by
 refine enterSX Tryz.f97 λB=>?_;refine zl (c71 _ _ e zo) ?_;rintro _ m ⟨L,x,i,rfl,k⟩;subst i
 have g:∀o,zI (h++(o::L)) x=some (xZ h.length e.kind):=λo=>by
  have:=(k (h++[o]) zh).rows;rw[zq] at this;exact this
 have l:∀o,xZ h.length e.kind≠[]->eOf (h++(o::L)) x=some 1:=λo n=>by
  have:=(k (h++[o]) zh).ee n;rw[zq] at this;exact this
 simp only[xZ,d,j,if_true,if_false,ne_eq,reduceCtorEq,not_false_eq_true,true_implies] at g l;refine zz ?_;refine ways (λa=>?_) (λa=>?_);rotate_left
 ·have a:=ju a;simp only[go_sem,a];exact zm (by simp only[go_sem,qV,a]<;>try rfl)
 have a:=jv a;simp only[go_sem,a];refine zl (c72 e.id 100000 _) ?_;rintro _ m ⟨rfl,i⟩;subst i;simp only[go_sem,a];refine ways (λb=>?_) (λb=>?_);rotate_left
 ·have b:=ju b;simp only[go_sem,a,b];exact zm (by simp only[go_sem,qV,a,b]<;>try rfl)
 have b:=jv b;simp only[go_sem,a,b];refine ways (λc=>?_) (λc=>?_);rotate_left
 ·have c:=ju c;simp only[go_sem,a,b,c];exact zm (by simp only[go_sem,qV,a,b,c]<;>try rfl)
 have c:=jv c;simp only[go_sem,a,b,c];refine qx (c72 e.at_ 31449599 _) ?_;simp only[go_sem,a,b,c];refine ways (λf=>?_) (λf=>?_)
 ·refine zz ?_;exact zm (by simp only[go_sem,qV,a,b,c,f]<;>try rfl)
 simp only[go_sem,g];refine vl 2 (jI ze ?_);simp only[go_sem,g,l];refine ways (λf0=>?_) (λf0=>?_)
 ·refine zz ?_;exact zm (by simp only[go_sem,qV,jW,d,j,a,b,c,f,f0]<;>try rfl)
 refine zz ?_;refine jI ze ?_;refine zz ?_;exact zm (by simp only[go_sem,qV,jW,d,j,a,b,c,f,f0]<;>try rfl)
def wEa(e:Ev)(d:¬ e.kind=3)(k:¬ e.kind=4):js Tryz.prog 97 [evV e] (bl (qV e)):=λh=>by
 refine enterSX Tryz.f97 λB=>?_;refine zl (c71 _ _ e zo) ?_;rintro _ l ⟨L,x,f,rfl,j⟩;subst f
 have i:∀o,zI (h++(o::L)) x=some (xZ h.length e.kind):=λo=>by
  have:=(j (h++[o]) zh).rows;rw[zq] at this;exact this
 have n:∀o,xZ h.length e.kind≠[]->eOf (h++(o::L)) x=some 1:=λo m=>by
  have:=(j (h++[o]) zh).ee m;rw[zq] at this;exact this
 simp only[xZ,d,k,if_true,if_false,ne_eq,reduceCtorEq,not_false_eq_true,true_implies] at i n;refine zz ?_;refine ways (λa=>?_) (λa=>?_);rotate_left
 ·have a:=ju a;simp only[go_sem,a];exact zm (by simp only[go_sem,qV,a]<;>try rfl)
 have a:=jv a;simp only[go_sem,a];refine zl (c72 e.id 100000 _) ?_;rintro _ l ⟨rfl,f⟩;subst f;simp only[go_sem,a];refine ways (λb=>?_) (λb=>?_);rotate_left
 ·have b:=ju b;simp only[go_sem,a,b];exact zm (by simp only[go_sem,qV,a,b]<;>try rfl)
 have b:=jv b;simp only[go_sem,a,b];refine ways (λc=>?_) (λc=>?_);rotate_left
 ·have c:=ju c;simp only[go_sem,a,b,c];exact zm (by simp only[go_sem,qV,a,b,c]<;>try rfl)
 have c:=jv c;simp only[go_sem,a,b,c];refine qx (c72 e.at_ 31449599 _) ?_;simp only[go_sem,a,b,c];refine ways (λg=>?_) (λg=>?_)
 ·refine zz ?_;exact zm (by simp only[go_sem,qV,a,b,c,g]<;>try rfl)
 simp only[go_sem,i];refine vl 1 (jI ze ?_);refine zz ?_;exact zm (by simp only[go_sem,qV,jW,d,k,a,b,c,g]<;>try rfl)
def c39(e:Ev):js Tryz.prog 97 [evV e] (bl (qV e)):=
 if h3:e.kind=3 then wCa e h3 else if h4:e.kind=4 then wDa e h3 h4 else wEa e h3 h4
def yV:List (Int × Int)->List (List AV)
 | []=>[]
 | p::r=>qQ p.1::qQ p.2::yV r
def X4:∀(l:List (Int × Int)),(yV l).length=2*l.length
 | []=>rfl
 | p::r=>by simp[yV,X4 r];omega
def X5:∀(l:List (Int × Int)) (k:Nat) (a:k<l.length),(yV l)[2*k]? =some [i64 l[k].1]/\(yV l)[2*k+1]? =some [i64 l[k].2]
 | p::r,0,_=>⟨rfl,rfl⟩
 | p::r,k+1,a=>by
   have:=X5 r k (by simpa using a);rw[show 2*(k+1)=2*k+1+1 by omega];simpa [yV] using this
def vX(l:List (Int × Int)):Bool:=l.all λp=> !decide (p.1≥p.2)
def vFa{k:Nat}(h:k<4611686018427387904):wr ((k:Int)+2)=((k+2:Nat):Int):=by rw[qb qg];rfl
def c38(h:List Ob)(x:AV)(l:List (Int × Int))(t:l.length<1099511627776)(f:SlOf h x 1 (yV l)):ACalls Tryz.prog 96 [x] h λr h'=>r=bl (vX l)/\h'=h:=by
 have b:=X4 l;refine enterSX Tryz.f96 λB=>?_
 refine wp_loop_a ze (λn T h'=>h'=h/\∃k:Nat,T 0=x/\T 3=i64 ((2*k:Nat):Int)/\k<=l.length/\(l.take k).all (λp=> !decide (p.1≥p.2))=true/\n=l.length - k) l.length
  ⟨rfl,0,zo,by(simp only[go_sem]<;>rfl),zb,rfl,rfl⟩ ?_
 rintro n T h' ⟨rfl,k,t0,t3,u,h0,rfl⟩;simp only[go_sem,t0,t3,f.rows,b];refine ways (λg=>?_) (λg=>?_)
 ·have a:k<l.length:=by
   have:((2*k:Nat):Int)<((2*l.length:Nat):Int):=(by simpa using g);omega
  obtain⟨m,q⟩:=X5 l k a;have d:=f.at (i:=0) zb;have o:((2*k:Nat):Int)<((2*l.length:Nat):Int):=zb;have b1:((2*k+1:Nat):Int)<((2*l.length:Nat):Int):=zb;have s:=jM (k:=2*k) zb;have j:=vFa (k:=2*k) zb;refine zz ?_;refine zZ [] 0 (oF [0,1,4,5,6,2,3,7,8,9] ([])) ?_;simp only[go_sem,t0,t3,f.rows,b,d,m,q,o,b1,s,Int.toNat_natCast,zd];refine ways (λe=>?_) (λe=>?_)
  ·refine zz ?_
   have c:vX l=false:=by
    unfold vX;rw[List.all_eq_false];exact⟨l[k],zx a,by simp only[e];simp⟩
   exact zm (by simp only[go_sem,c]<;>try rfl)
  ·simp only[go_sem,t3,j];refine⟨l.length - (k+1),zb,k+1,t0,rfl,zb,?_,rfl⟩;rw[List.take_add_one,zg a,List.all_append,h0];simp only[Option.toList_some,List.all_cons,List.all_nil,e,Bool.and_self,Bool.not_false]
 ·have a:k=l.length:=by
   have:¬ ((2*k:Nat):Int)<((2*l.length:Nat):Int):=(by simpa using g);omega
  rw[a,qR] at h0;refine zz ?_;exact zm (by simp only[go_sem,vX,h0]<;>try rfl)
def km(s:Setup)(e:Ev):Bool:= !(!qV e) && (!(!vX [(e.worker,s.rates.length)]) && (if e.kind=3 then vX [(e.from_,s.places),(e.to_,s.places),(e.element,s.elements.length),(e.class_,s.classes.length),(e.gear,s.gears.length),(e.units,10001)] else if e.kind=4 then decide (e.code<=99) else true))
def c14(h:List Ob)(s:Setup)(a:SA)(k:SIn h s a)(e:Ev):ACalls Tryz.prog 49 [qE s a,evV e] h λr h'=>r=bl (km s e)/\h'=h:=by
 refine enterQX Tryz.f49 λB=>?_;simp only[go_sem,k.w.one,k.e.one,k.c.one,k.g.one,k.r.one,k.t.one];refine zl (c39 e _) ?_;rintro _ l ⟨rfl,j⟩;subst j;refine zz ?_;refine ways (λb=>?_) (λb=>?_);rotate_left
 ·have b:=ju b;simp only[go_sem,b];exact zm (by simp only[go_sem,km,b]<;>try rfl)
 have b:=jv b;simp only[go_sem,b,(k.app _).r.rows,zc];refine zl (c38 _ _ [(e.worker,s.rates.length)] zh ⟨by simp only[go_sem,yV,qQ],λ_=>by simp only[go_sem,yV,qQ]⟩) ?_;rintro _ l ⟨rfl,j⟩;subst j;simp only[go_sem,b];refine ways (λi=>?_) (λi=>?_)
 ·refine zz ?_;exact zm (by simp only[go_sem,km,b,i]<;>try rfl)
 refine zz ?_;by_cases d:e.kind=3
 ·simp only[go_sem,d,(k.app _).e.rows,(k.app _).c.rows,(k.app _).g.rows,zc];refine qI (c38 _ _ [(e.from_,s.places),(e.to_,s.places),(e.element,s.elements.length),(e.class_,s.classes.length),(e.gear,s.gears.length),(e.units,10001)] zh ⟨by simp only[go_sem,yV,qQ],λ_=>by simp only[go_sem,yV,qQ]⟩) ?_;exact zm (by simp only[go_sem,km,b,i,d]<;>try rfl)
 ·refine ways (λq=>absurd (by simpa using q) d) (λq=>?_);refine zz ?_;by_cases f:e.kind=4
  ·refine ways (λq=>?_) (λq=>absurd f (by simpa using q));refine zz ?_;exact zm (by simp only[go_sem,km,b,i,d,f]<;>try rfl)
  ·refine ways (λq=>absurd (by simpa using q) f) (λq=>?_);refine zz ?_;exact zm (by simp only[go_sem,km,b,i,d,f]<;>try rfl)
