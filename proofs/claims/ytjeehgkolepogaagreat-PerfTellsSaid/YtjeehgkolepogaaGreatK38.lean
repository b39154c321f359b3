import Derived.Test.YtjeehgkolepogaaGreatK37
import Derived.WideKeyRuns
import Derived.WideKeyEntry
import Derived.Maps.RangeRun
set_option linter.all false
namespace Go.Proofs.YtjeehgkolepogaaGreat.Ax
open Go Go.Proofs Go.RowKit
set_option maxRecDepth 100000
end Go.Proofs.YtjeehgkolepogaaGreat.Ax
namespace Go.Proofs.YtjeehgkolepogaaGreat.Ax
open Go Go.Proofs
set_option maxRecDepth 100000
def vXa(k:Int × Int):Value:= .agg #[.int .i64 k.1,.int .i64 k.2]
structure KM (es:Array MapEntry) (c:Nat) (ks:List (Int × Int)):Prop where
 keys:es.toList.map (·.key)=ks.map vXa
 vals:∀e∈es.toList,∃n,e.val= .int .i64 n
 born:(es.toList.map (·.born)).Nodup
 lt:∀e∈es.toList,e.born<c
def yxa(a:List (Int × Int))(k:Int × Int):List (Int × Int):=if k∈a then a else a++[k]
end Go.Proofs.YtjeehgkolepogaaGreat.Ax
namespace Go.Proofs.YtjeehgkolepogaaGreat.Ax
open Go Go.RowKit
def wUa(P:Program)(N:Nat)(o:Oper)(K:Env->List Ob->Prop)(T:Env)(h:List Ob):Prop:=
 ∀ (φ:Nat->Ob),Upto φ h.length->∀(B:Bs) (w:World) (g:Gh) (a:Act),Rel N B w g (fill φ h) a T->∀(Q:Exit->Act->World->Prop) (next:Act->World->Prop),
   (∀b h' w' a',K b h'->Aft N B φ w g h b h' a' w'->next a' w')->o.wp P a w next Q
section
variable {P:Program} {N:Nat} {B:Bs} {ops:Array Oper} {T:Env} {h:List Ob} {K:Env->List Ob->Prop} {o:Oper}
def k9a(P:Program)(N:Nat)(K:Env->List Ob->Prop):List Oper->Env->List Ob->Prop
 | [],T,h=>K T h
 | o::l,T,h=>o.guard=none/\wUa P N o (k9a P N K l) T h
def qya:k9a P N K [] T h=K T h:=id rfl
attribute [go_sem] qya
end
open Go.Proofs
set_option maxRecDepth 100000
section
variable {P:Program} {N:Nat} {B:Bs} {c:Code} {Q:xk} {T:Env} {h:List Ob}
end
section
variable {N:Nat} {T:Env} {h:List Ob} {K:Env->List Ob->Prop} {o:Oper}
end
open Go.Shelf Go.Lib Go.Sort
end Go.Proofs.YtjeehgkolepogaaGreat.Ax
namespace Go.Proofs.YtjeehgkolepogaaGreat.Ax
open Go Go.Proofs
set_option maxRecDepth 100000
structure JT (H:List Ob) (id l i3 j:Nat) (e:Ev) (w:Int) (ks:List (Int × Int)) (u1 u5:AV) (S:Nat->Bool) (T:Env) (h:List Ob):Prop where
 t1:T 1=u1
 t2:T 2= .ptr j 0
 t3:T 3= .ptr i3 0
 t5:T 5=u5
 t6:T 6=i64 w
 k0:S 0=true->T 20= .v (.map (some l))
 k1:S 1=true->T 21= .ptr i3 1
 k2:S 2=true->T 22=i64 e.worker
 k3:S 3=true->T 23=i64 w
 k4:S 4=true->T 24= .ag [i64 e.worker,i64 w]
 k5:S 5=true->∃n,T 25=i64 n
 k6:S 6=true->∃n,T 26=i64 n
 k8:S 8=true->S 7=true
 k7:∃es c ks',h=H.set id (.raw l (.map es c) [] [])/\KM es c ks'/\(S 7=false->ks'=ks)/\(S 7=true->ks'=yxa ks (e.worker,w)/\∃(n:Int) (st:Nat),T 27= .tup [i64 n,i64 st]/\(S 8=true->T 28=i64 st)/\∃x∈es.toList,x.born=st)
open Go.RowKit
structure Vis (es:Array MapEntry) (seen:Array Nat) (vs:List (Int × Int)):Prop where
 nodup:vs.Nodup
 iff:∀e∈es.toList,∀k,e.key=vXa k->(k∈vs↔e.born∈seen)
 sub:∀k∈vs,∃e∈es.toList,e.key=vXa k
end Go.Proofs.YtjeehgkolepogaaGreat.Ax
namespace Go.Proofs.YtjeehgkolepogaaGreat.Ax
open Go Go.Proofs
set_option maxRecDepth 100000
section
variable {h:List Ob} {d:Nat} {s:Setup} {a:SA} {x c:AV} {rows segs bytes:AV} {q:Cm}
end
end Go.Proofs.YtjeehgkolepogaaGreat.Ax
namespace Go.Proofs.YtjeehgkolepogaaGreat.Ax
open Go Go.RowKit
section
variable {B:Nat} {w w':World} {g g':Gh} {h h' L:List Ob} {P:Program}
end
end Go.Proofs.YtjeehgkolepogaaGreat.Ax
namespace Go.Proofs.YtjeehgkolepogaaGreat.Ax
open Go Go.Proofs
set_option maxRecDepth 100000
section
variable {h:List Ob} {d:Nat} {s:Setup} {a:SA} {x c:AV} {segs:AV} {q:Cm}
end
open Go.Shelf Go.RowKit Go.Lib Go.Sort
end Go.Proofs.YtjeehgkolepogaaGreat.Ax
namespace Go.Proofs.YtjeehgkolepogaaGreat.Ax
open Go Go.Proofs
set_option maxRecDepth 100000
section
variable {h:List Ob} {d:Nat} {s:Setup} {a:SA} {x c:AV} {rows segs bytes:AV} {q:Cm}
end
section
variable {h:List Ob} {d:Nat} {s:Setup} {a:SA} {x c:AV} {rows segs bytes:AV} {q:Cm}
end
open Go.RowKit
abbrev nl:AV:= .v (.slice none 0 0)
structure AL (n:Nat) (a:SA):Prop where
 w:a.w.lt n=true
 e:a.e.lt n=true
 c:a.c.lt n=true
 g:a.g.lt n=true
 r:a.r.lt n=true
 t:a.t.lt n=true
section
variable {h:List Ob} {d:Nat} {s:Setup} {a:SA} {q:Cm} {b:Bk}
end
def eqSegs(h:List Ob)(l:List Seg)(d:l.length<1099511627776):
    ACalls Tryz.prog 15 [.sl 5 (l.map qU),.sl 5 (l.map qU)] h λr h'=>r=bl true/\h'=h:=by
 refine enterQX Tryz.f15 λB=>?_;simp only[go_sem,zc,bne_self_eq_false]
 refine wp_loop_a ze (λm T h'=>h'=h/\∃k:Nat,k<=l.length/\T 0= .sl 5 (l.map qU)/\T 1= .sl 5 (l.map qU)/\T 5=i64 k/\m=l.length - k) l.length
  ⟨rfl,0,zb,zo,zo,by(simp only[go_sem]<;>rfl),rfl⟩ ?_
 rintro m T h' ⟨rfl,k,f,t0,t1,t5,rfl⟩;simp only[go_sem,t5,t0,zc];refine ways (λe=>?_) (λe=>?_)
 ·have c:=dlt e;have a:=zfa qU c;have b:(k:Int)<l.length:=zb;refine zz ?_;refine zZ [] 0 (oF [0,1,4,5,2,3,6,7,8] ([])) ?_;simp only[go_sem,t5,t0,t1,a,b,qU,zc,Int.toNat_natCast,zd,beq_self_eq_true,Bool.and_self,Bool.not_true,qv,bne_self_eq_false];exact⟨l.length - (k+1),zb,k+1,zb,qh zb rfl,rfl⟩
 ·refine zz ?_;exact qt
def eqFlgs(h:List Ob)(l:List Flg)(d:l.length<1099511627776):
    ACalls Tryz.prog 16 [.sl 2 (l.map kZ),.sl 2 (l.map kZ)] h λr h'=>r=bl true/\h'=h:=by
 refine enterQX Tryz.f16 λB=>?_;simp only[go_sem,zc,bne_self_eq_false]
 refine wp_loop_a ze (λm T h'=>h'=h/\∃k:Nat,k<=l.length/\T 0= .sl 2 (l.map kZ)/\T 1= .sl 2 (l.map kZ)/\T 5=i64 k/\m=l.length - k) l.length
  ⟨rfl,0,zb,zo,zo,by(simp only[go_sem]<;>rfl),rfl⟩ ?_
 rintro m T h' ⟨rfl,k,f,t0,t1,t5,rfl⟩;simp only[go_sem,t5,t0,zc];refine ways (λe=>?_) (λe=>?_)
 ·have c:=dlt e;have a:=zfa kZ c;have b:(k:Int)<l.length:=zb;refine zz ?_;refine zZ [] 0 (oF [0,1,4,5,2,3,6,7,8] ([])) ?_;simp only[go_sem,t5,t0,t1,a,b,kZ,zc,Int.toNat_natCast,zd,beq_self_eq_true,Bool.and_self,Bool.not_true,qv,bne_self_eq_false];exact⟨l.length - (k+1),zb,k+1,zb,qh zb rfl,rfl⟩
 ·refine zz ?_;exact qt
end Go.Proofs.YtjeehgkolepogaaGreat.Ax
namespace Go.Proofs.YtjeehgkolepogaaGreat.Ax
open Go Go.RowKit Go.ChangeShapes Go.WideShapes
def xya(r:List Int):Seg:=⟨kK r 0,kK r 1,kK r 2,kK r 3,kK r 4⟩
def kMa:∀ {r:List Int},r.length=5->r.map i64=qU (xya r)
 | [_,_,_,_,_],_=>rfl
def InSegs(w:World)(v:Value):Prop:=∃(x:AV) (l:List Seg),AR (c0 w) x v/\SlOf [] x 5 (l.map qU)
def segs_in{H:Type}{enc:TypeId × Value->H}{w:World}{base:Nat}{held:Bool}{b:Nat}{v:Value}{x:DataW H × List MemPlace}(h:DataW.trod enc Tryz.prog w base (λ_=>true) held b 42 [v]=some x):InSegs w v:=by
 obtain⟨a,rows,j,c,d⟩:=slice_in Tryz.underlying42 (n:=2) zC h;have e:Tryz.prog.cellsOf 62=5:=zC;rw[e] at c d;rw[wK (f:=xya) (g:=qU) kMa λr i=>(d r i).1] at c;exact⟨a,_,j,c⟩
end Go.Proofs.YtjeehgkolepogaaGreat.Ax
namespace Go.Proofs.YtjeehgkolepogaaGreat.Ax
open Go Go.Proofs
def jj(n d:Int):zL × Int:=
 if d<1 then((0,0),20) else
  if jw (n.tdiv (Int.gcd n d:Int),d.tdiv (Int.gcd n d:Int)) then((n.tdiv (Int.gcd n d:Int),d.tdiv (Int.gcd n d:Int)),0) else((0,0),10)
def kG{n d:Int}(k: -9223372036854775807<=n/\n<=9223372036854775807)(p:d<=9223372036854775807):jj n d=make n d:=by
 by_cases h0:d<1
 ·unfold jj make;rw[if_pos h0,if_pos zb]
 ·obtain⟨a,b,g,r,c,f,o,i,e⟩:=make_red k (d:=d) zb
  have m:(Int.gcd n d:Int)=g:=by
   rw[c,f,Int.gcd_mul_left,i];omega
  have l:n.tdiv g=a:=by rw[c];exact Int.mul_tdiv_cancel_left a zb
  have j:d.tdiv g=b:=by rw[f];exact Int.mul_tdiv_cancel_left b zb
  rw[e];unfold jj;rw[if_neg h0,m,l,j];by_cases h:a>2147483647∨a< -2147483647∨b>2147483647
  ·have:jw (a,b)=false:=by
    rw[<-Bool.not_eq_true,vt];intro q;have:=q.num;have:=q.den;omega
   rw[if_pos h,this];rfl
  ·have:jw (a,b)=true:=(vt _).2 ⟨o,i,by show _<=a/\a<=_;omega,by show b<=_;omega⟩;rw[if_neg h,this];rfl
def jC(v:zL->zL->Int × Int)(a b:zL):zL × Int:=if jw a && jw b then jj (v a b).1 (v a b).2 else((0,0),20)
def QH(a b:zL):jC XE a b=jG a b:=by
 unfold jC;rw[kE,kE];cases h:rok a && rok b
 ·rw[jG,kA,h];rfl
 ·have h':=h;rw[zi] at h';have g:=y6 h'.1;have d:=y6 h'.2;obtain⟨_,i,e⟩:=j2a g d;have f:wr (a.1*b.1)=a.1*b.1:=qb qg;have c:wr (a.2*b.2)=a.2*b.2:=qb qg;rw[jG,kA,h];show jj (wr (a.1*b.1)) (wr (a.2*b.2))=make (wr (a.1*b.1)) (wr (a.2*b.2));exact kG (by rw[f];exact i) (by rw[c];exact e.2)
def QI(a b:zL):jC Zr a b=vr a b:=by
 unfold jC;rw[kE,kE];cases h:rok a && rok b
 ·rw[vr,kA,h];rfl
 ·have h':=h;rw[zi] at h';have d:=y6 h'.1;have c:=y6 h'.2;have:=d.num;have:=d.den;have:=d.pos;have:=c.num;have:=c.den;have:=c.pos;have l:=kD (x:=a.1) (y:=b.2) zb zb zb zb;have m:=kD (x:=b.1) (y:=a.2) zb zb zb zb;obtain⟨_,k,i⟩:=j1a d c;have g:wr (a.1*b.2)=a.1*b.2:=qb qg;have j:wr (b.1*a.2)=b.1*a.2:=qb qg;have e:wr (a.2*b.2)=a.2*b.2:=qb qg;have f:wr (a.1*b.2 - b.1*a.2)=a.1*b.2 - b.1*a.2:=qb qg;rw[vr,kA,h];show jj (wr (wr (a.1*b.2) - wr (b.1*a.2))) (wr (a.2*b.2))=make (wr (wr (a.1*b.2) - wr (b.1*a.2))) (wr (a.2*b.2));rw[g,j];exact kG (by rw[f];exact k) (by rw[e];exact i.2)
def yC(a b:zL):zL × Int:=if !jw b || decide (b.1<1) then((0,0),20) else jC XE a (b.2,b.1)
def qza{a:zL}{n:Int}(h0:0<n/\n<=2147483647):yC a (n,1)=wy a (n,1):=by
 have c:Lo (n,1):=⟨by show(0:Int)<1;decide,zh,by show _<=n/\n<=_;omega,by show(1:Int)<=2147483647;decide⟩;have hi:Lo (1,n):=⟨by show 0<n;omega,zh,by show(-2147483647:Int)<=1/\(1:Int)<=2147483647;omega,by show n<=_;omega⟩;have d:=(vt _).2 c;have g:=(vt _).2 hi;unfold yC;rw[d,show decide (((n,1):zL).1<1)=false from by rw[decide_eq_false_iff_not];show ¬ n<1;omega];show jC XE a (1,n)=_;rw[QH];cases b:rok a
 ·rw[jG,wy,kA,kA,b];rfl
 ·have b:=y6 b;obtain⟨f,_⟩:=j2a b hi;obtain⟨e,_⟩:=vNa b c (by show 0<n;omega);rw[f,e]
def j0:zL->List zL->zL × Int
 | out,[]=>(out,0)
 | out,r::l=>if(jC Zr out (wr (-r.1),r.2)).2≠0 then((0,0),(jC Zr out (wr (-r.1),r.2)).2) else j0 (jC Zr out (wr (-r.1),r.2)).1 l
def ZT(l:List zL):zL × Int:=if l.all jw then j0 (0,1) l else((0,0),20)
def vZa{r:zL}(h:Lo r):Lo (wr (-r.1),r.2):=by
 have:=h.num;have w:wr (-r.1)= -r.1:=qb qg;rw[w];exact⟨h.pos,by rw[Int.neg_gcd];exact h.cop,by show _<= -r.1/\ -r.1<=_;omega,h.den⟩
def kNa{out r:zL}(b:Lo out)(a:Lo r):jC Zr out (wr (-r.1),r.2)=kA KT out r:=by
 have c:=vZa a;have:=a.num;have w:wr (-r.1)= -r.1:=qb qg;rw[QI,(j1a b c).1,(xwa b a).1,w];show make (out.1*r.2 - -r.1*out.2) _=_;rw[Int.neg_mul,Int.sub_neg]
def Xn:∀(l:List zL) {out:zL},Lo out->(∀r∈l,Lo r)->j0 out l=Q9 out l
 | [],_,_,_=>rfl
 | r::l,out,a,h=>by
   have b:=h r (.head _);rw[j0,Q9,kNa a b];by_cases q:(kA KT out r).2=0
   ·rw[if_neg (by simpa using q),if_neg (by simpa using q)];obtain⟨e,b1,b2⟩:=xwa a b;refine Xn l ?_ λx c=>h x (.tail _ c);rw[e] at q⊢;exact(make_ok b1 b2 q).1
   ·rw[if_pos q,if_pos q]
def qAa(l:List zL):ZT l=jB l:=by
 unfold ZT jB
 have e:l.all jw=l.all rok:=by
  congr 1;funext p;exact kE p
 rw[e];cases h:l.all rok
 ·rfl
 ·rw[if_pos rfl,if_pos rfl];exact Xn l kqa λr a=>y6 (zY.1 h r a)
structure Money (s:Setup):Prop where
 rates:∀r∈s.rates,0<=r/\r<=100000
 diff:0<=s.diff/\s.diff<=100000
 least:0<=s.least/\s.least<=100000
 bonus:∀t∈s.tiers,0<=t.2/\t.2<=100000
def kOa(b:Int)(f:Nat->Int):Nat->Int
 | 0=>b
 | n+1=>wr (kOa b f n+f n)
def xza(t:Nat->Int):Nat->Int
 | 0=>0
 | n+1=>if n=0 then xza t n else wr (xza t n+t n)
structure PayOk (s:Setup) (t:Nat->Int) (p:PayR) (tier:Int):Prop where
 zero:p.pays 0=0
 sum:kOa (wr (p.extra+p.supp)) p.pays 7=p.total
 none:tier<0->p.extra=0
 least:wr (xza t 7*s.least)<=wr (p.total*3600)
structure GrossOk (s:Setup) (R:RowV):Prop where
 bad:R.err=70∨R.err=80∨R.err=212->kOa (wr (R.extra+R.supp)) R.pays 7=0/\xza R.tot 7=0/\R.total=0/\R.tier= -1/\R.elig=0
 sum:¬ (R.err=70∨R.err=80∨R.err=212)->kOa (wr (R.extra+R.supp)) R.pays 7=R.total/\R.pays 0=0/\(0<=R.tier∨R.extra=0)/\((0<R.elig/\R.err=0)∨R.tier= -1)/\wr (xza R.tot 7*s.least)<=wr (R.total*3600)
def xAa{n d:Int}(h:(make n d).2≠0):(make n d).1=(0,0):=by
 unfold make at h⊢;split
 ·rfl
 ·split
  ·rename_i a b;rw[if_neg a,if_pos b] at h;exact absurd rfl h
  ·split
   ·rfl
   ·rename_i a b c;rw[if_neg a,if_neg b,if_neg c] at h;exact absurd rfl h
def kPa{v:zL->zL->Int × Int}{a b:zL}(h:(kA v a b).2≠0):(kA v a b).1=(0,0):=by
 unfold kA at h⊢;split
 ·rename_i c;rw[if_pos c] at h;exact xAa h
 ·rfl
def qT(z:zL × Int)(b:zL):zL × Int:=if z.2≠0 then((0,0),z.2) else jG z.1 b
def ky(s:Setup)(e:Ev):zL × Int:=
 if(!zX s || (!km s e || !(e.kind==3)))=true then((0,0),100) else
 if ZQ s e<0 then((0,0),100) else
 if(qT (jG (ZQ s e,1) s.pace) (kh s.gears e.gear)).2≠0 then((0,0),(qT (jG (ZQ s e,1) s.pace) (kh s.gears e.gear)).2) else
 if(jG (vb s.elements e.element).2 (e.units,1)).2≠0 then((0,0),(jG (vb s.elements e.element).2 (e.units,1)).2) else
 if(qT (jB [(vb s.elements e.element).1,(jG (vb s.elements e.element).2 (e.units,1)).1]) (kh s.classes e.class_)).2≠0 then((0,0),(qT (jB [(vb s.elements e.element).1,(jG (vb s.elements e.element).2 (e.units,1)).1]) (kh s.classes e.class_)).2) else
 qT (jB [(qT (jG (ZQ s e,1) s.pace) (kh s.gears e.gear)).1,(qT (jB [(vb s.elements e.element).1,(jG (vb s.elements e.element).2 (e.units,1)).1]) (kh s.classes e.class_)).1]) (make (wr (100+s.allow)) 100).1
def YH(s:Setup)(e:Ev):ky s e=jQ s e:=by
 unfold ky jQ;by_cases h:(zX s && (km s e && e.kind==3))=true
 ·have j:=h;simp only[zi,beq_iff_eq] at j;obtain⟨i,k,l⟩:=j;rw[if_pos h,if_neg (by simp[i,k,l])];have u:=vWa i e;by_cases q:ZQ s e= -1
  ·rw[if_pos zb,if_pos q]
  ·rw[if_neg zb,if_neg q];unfold wx kp qT;obtain⟨a,z⟩:∃a,a=jG (ZQ s e,1) s.pace:=⟨_,rfl⟩;rw[<-z];simp only[if_true];by_cases o:a.2=0
   ·simp only[o,if_true,ne_eq,not_true,if_false];obtain⟨b,C⟩:∃b,b=jG a.1 (kh s.gears e.gear):=⟨_,rfl⟩;rw[<-C];by_cases p:b.2=0
    ·simp only[p,if_true,ne_eq,not_true,if_false];obtain⟨c,B⟩:∃c,c=jG (vb s.elements e.element).2 (e.units,1):=⟨_,rfl⟩;rw[<-B];by_cases t:c.2=0
     ·simp only[t,if_true,ne_eq,not_true,if_false,K3];obtain⟨d,w⟩:∃d,d=jB [(vb s.elements e.element).1,c.1]:=⟨_,rfl⟩;rw[<-w];by_cases n:d.2=0
      ·simp only[n,if_true,ne_eq,not_true,if_false];obtain⟨f,u⟩:∃f,f=jG d.1 (kh s.classes e.class_):=⟨_,rfl⟩;rw[<-u];by_cases r:f.2=0
       ·simp only[r,if_true,ne_eq,not_true,if_false];obtain⟨x,A⟩:∃x,x=jB [b.1,f.1]:=⟨_,rfl⟩;rw[<-A];by_cases v:x.2=0
        ·simp only[v,if_true,ne_eq,not_true,if_false];obtain⟨y,m⟩:∃y,y=jG x.1 (make (wr (100+s.allow)) 100).1:=⟨_,rfl⟩;rw[<-m];by_cases g:y.2=0
         ·rw[if_pos g];exact Prod.ext rfl g
         ·rw[if_neg g];exact Prod.ext (by rw[m] at g ⊢;exact kPa g) rfl
        ·simp only[v,not_false_eq_true,if_true,if_false]
       ·simp only[r,not_false_eq_true,if_true,if_false]
      ·simp only[n,not_false_eq_true,if_true,if_false]
     ·simp only[t,ne_eq,not_false_eq_true,if_true,if_false]
    ·simp only[p,ne_eq,not_false_eq_true,if_true,if_false]
   ·simp only[o,ne_eq,not_false_eq_true,if_true,if_false]
 ·rw[if_neg h,if_pos];simp only[Bool.or_eq_true,Bool.not_eq_true', <-Bool.not_eq_true];simp only[zi] at h;by_cases i:zX s=true
  ·by_cases k:km s e=true
   ·exact .inr (.inr λl=>h ⟨i,k,l⟩)
   ·exact .inr (.inl k)
  ·exact .inl i
def jq(F:Int)(S:zL × Int)(m:Nat):zL × Int:=
 if S.2≠0 then((0,0),S.2) else
 if(make (wr (F*(m:Int))) 1).2≠0 then((0,0),(make (wr (F*(m:Int))) 1).2) else
 if(vr S.1 (make (wr (F*(m:Int))) 1).1).2≠0 then((0,0),(vr S.1 (make (wr (F*(m:Int))) 1).1).2) else
 if(vr S.1 (make (wr (F*(m:Int))) 1).1).1.1<0 then((0,1),0) else((vr S.1 (make (wr (F*(m:Int))) 1).1).1,0)
def wL(F:Int)(e:Int)(S:zL × Int)(n:Int)(m:Nat):PerfV:=
 if e≠0 then⟨(0,0),n,(0,0),e⟩ else
 if(jq F S m).2≠0 then⟨(0,0),n,(0,0),(jq F S m).2⟩ else
 if n=0 then⟨(jq F S m).1,0,(0,1),0⟩ else
 if(make n 1).2≠0 then⟨(0,0),n,(0,0),(make n 1).2⟩ else
 if(wy (jq F S m).1 (make n 1).1).2≠0 then⟨(0,0),n,(0,0),(wy (jq F S m).1 (make n 1).1).2⟩ else
 ⟨(jq F S m).1,n,(wy (jq F S m).1 (make n 1).1).1,0⟩
def YI{F:Int}{z S:zL × Int}{n:Int}{m:Nat}(s:0<=n):wL F z.2 S n m=Km F z S n m:=by
 unfold Km k8a jg wL jq;obtain⟨a,r⟩:∃a,a=make (wr (F*(m:Int))) 1:=⟨_,rfl⟩;rw[<-r];by_cases p:z.2=0
 ·simp only[p,if_true,ne_eq,not_true,if_false];by_cases o:S.2=0
  ·simp only[o,if_true,ne_eq,not_true,if_false];by_cases l:a.2=0
   ·simp only[l,if_true,ne_eq,not_true,if_false];obtain⟨b,q⟩:∃b,b=vr S.1 a.1:=⟨_,rfl⟩;rw[<-q];by_cases j:b.2=0
    ·simp only[j,true_and,ne_eq,not_true,if_false];by_cases k:b.1.1<0
     ·simp only[k,if_true,not_true,if_false];by_cases h0:n=0
      ·subst h0;simp
      ·have i:n>0:=(by omega);simp only[h0,i,if_false,and_self,if_true];obtain⟨c,h⟩:∃c,c=make n 1:=⟨_,rfl⟩;rw[<-h];by_cases e:c.2=0
       ·simp only[e,if_true,not_true,if_false];obtain⟨d,g⟩:∃d,d=wy (0,1) c.1:=⟨_,rfl⟩;rw[<-g];by_cases f:d.2=0
        ·simp[f]
        ·simp[f]
       ·simp[e]
     ·simp only[k,if_false,j,not_true,and_true];by_cases h0:n=0
      ·subst h0;simp
      ·have i:n>0:=(by omega);simp only[h0,i,if_false,if_true];obtain⟨c,h⟩:∃c,c=make n 1:=⟨_,rfl⟩;rw[<-h];by_cases e:c.2=0
       ·simp only[e,if_true,not_true,if_false];obtain⟨d,g⟩:∃d,d=wy b.1 c.1:=⟨_,rfl⟩;rw[<-g];by_cases f:d.2=0
        ·simp[f]
        ·simp[f]
       ·simp[e]
    ·simp[j]
   ·simp[l]
  ·simp[o]
 ·simp[p]
def kb(s:Setup)(l:List Ev)(w id:Int):Ev:=((zS l).find? λe=>km s e && (e.worker==w && (e.kind==3 && e.id==id))).getD wQ
def Xo(s:Setup)(l:List Ev)(w:Int)(g:Seg):kb s l w g.id=vq (yZ s w l) g:=by
 unfold kb vq yZ;rw[List.find?_filter];congr 2;funext e;unfold ww vP;cases km s e<;>cases h:e.worker==w<;>cases e.kind==3<;>cases e.id==g.id<;>simp[bne,h]
def kc(s:Setup)(l:List Ev)(w k:Int):Nat:=(l.filter λe=>km s e && (e.worker==w && (e.kind==7 && kT e.at_==k))).length
def Va(s:Setup)(l:List Ev)(w k:Int):kc s l w k=xN (yZ s w l) k:=by
 rw[Yy,List.filter_filter];unfold kc;congr 2;funext e;unfold ww kx;cases km s e<;>cases h:e.worker==w<;>cases e.kind==7<;>cases kT e.at_==k<;>simp[bne,h]
def xBa(n a b:Int):wr (wr (n+a) - b)=wr (n+wr (a - b)):=by
 unfold wr;rw[IntKind.wrap_i64,IntKind.wrap_i64,IntKind.wrap_i64,IntKind.wrap_i64];omega
def xO(a:List Seg):Int:=a.foldl (λn g=>wr (wr (n+g.to_) - g.from_)) 0
def xy(s:Setup)(l:List Ev)(w:Int)(a:List Seg):Int:=a.foldl (λe g=>if e=0 then(jQ s (kb s l w g.id)).2 else e) 0
def Xp(k:Int)(segs:List Seg):xO (segs.filter (qn k))=Kn k segs:=by
 unfold xO Kn Yx;congr 1;funext n g;exact xBa n g.to_ g.from_
def xCa{s:Setup}{l:List Ev}{w:Int}:∀(a:List Seg) (z:zL × Int),(a.foldl (λz g=>jg z ((0,1),(jQ s (vq (yZ s w l) g)).2)) z).2=a.foldl (λe g=>if e=0 then(jQ s (kb s l w g.id)).2 else e) z.2
 | [],_=>rfl
 | g::a,z=>by
   rw[List.foldl_cons,List.foldl_cons,xCa a];congr 1;unfold jg;rw[Xo];split<;>rfl
def Zp(s:Setup)(l:List Ev)(w k:Int):PerfV:=
 if zX s then
  wL s.fault (xy s l w ((qq s l w).1.filter (qn k))) (jB (((qq s l w).1.filter (qn k)).map λg=>(jQ s (kb s l w g.id)).1)) (xO ((qq s l w).1.filter (qn k))) (kc s l w k)
 else⟨(0,1),0,(0,1),0⟩
def YJ(s:Setup)(l:List Ev)(w k:Int):Zp s l w k=y0 s l w k:=by
 unfold Zp y0;by_cases a:zX s=true
 ·rw[if_pos a,if_pos a,xia,Xm];have b:=(stream_rise (s:=s) (l:=l) (w:=w) a).1;have h0:0<=Kn k (qq s l w).1:=by rw[Wp b];exact(Wq b k).1.1
  rw[<-YI h0,Va,Xp];congr 1
  ·unfold xy xha Yx;rw[xCa]
  ·unfold xga Yx;congr 1;refine List.map_congr_left λg _=>?_;rw[Xo]
 ·rw[if_neg a,if_neg a]
def kW(p:zL):Int->Int->List yH->Int
 | out,_,[]=>out
 | out,i,t::l=>kW p (if wr (t.1*p.2)<=wr (100*p.1) then i else out) (i+1) l
def Jq(s:Setup)(p:zL):Int:=if zX s && rok p then kW p (-1) 0 s.tiers else -1
def Q2{p:zL}(b:rok p=true):∀(l:List yH) (o i:Int),(∀t∈l,0<=t.1/\t.1<=1000)->kW p o i l=Zw p o i l
 | [],_,_,_=>rfl
 | t::l,o,i,h=>by
   have c:=h t (.head _);have a:=y6 b;have:=a.num;have:=a.den;have:=a.pos;have j:=kD (x:=t.1) (y:=p.2) zb zb zb zb;have k:=kD (x:=100) (y:=p.1) zb zb zb zb;have f:wr (t.1*p.2)=t.1*p.2:=qb qg;have d:wr (100*p.1)=100*p.1:=qb qg;rw[kW,Zw,f,d,Q2 b l _ _ λx g=>h x (.tail _ g)];congr 1;have:=qpa b c.1 c.2;by_cases q:t.1*p.2<=100*p.1
   ·rw[if_pos q,if_pos (this.2 q)]
   ·rw[if_neg q,if_neg (λe=>q (this.1 e))]
def YK(s:Setup)(p:zL):Jq s p=Zx s p:=by
 unfold Jq Zx;by_cases h:(zX s && rok p)=true
 ·rw[if_pos h,if_pos h];rw[zi] at h;exact Q2 h.2 s.tiers _ _ (V8 h.1).1
 ·rw[if_neg h,if_neg h]
open Go.RowKit
set_option maxRecDepth 100000
def Ws{n:Int}(g:Int)(a: -9223372036854775807<=n/\n<=9223372036854775807):Fit (n.tdiv g):=by
 have h:(n.tdiv g).natAbs<=n.natAbs:=by rw[Int.natAbs_tdiv];exact Nat.div_le_self _ _
 unfold Fit;omega
def Xq(n d:Int)(i: -9223372036854775807<=n/\n<=9223372036854775807)(c: -9223372036854775807<=d/\d<=9223372036854775807):js Tryz.prog 41 [i64 n,i64 d] (vU (jj n d)):=λh=>by
 refine enterSX Tryz.f41 λB=>?_;refine ways (λe=>?_) (λe=>?_)
 ·have b:=of_decide_eq_true e;refine zz ?_;exact zm (by simp only[go_sem,jj,if_pos b]<;>try rfl)
 ·have b:=of_decide_eq_false e;refine zz ?_;refine zl (k6a _ n d rfl i c _) ?_;rintro _ r ⟨rfl,rfl⟩;have a:¬ ((Int.gcd n d:Nat):Int)=0:=λq=>b (by have:=Int.gcd_eq_zero_iff.1 (show Int.gcd n d=0 by omega);omega);obtain⟨g,j⟩:∃g,g=((Int.gcd n d:Nat):Int):=⟨_,rfl⟩;have o:jj n d=if jw (n.tdiv g,d.tdiv g) then((n.tdiv g,d.tdiv g),0) else((0,0),10):=by rw[jj,if_neg b,j]
  rw[<-j] at a⊢;have k:=Ws g i;have f:=Ws g c;have m:wr (n.tdiv g)=n.tdiv g:=qb k;have l:wr (d.tdiv g)=d.tdiv g:=qb f;rw[o];refine zz ?_;refine zZ [.res] 1 (oF [0,1,2,3,4,5,6,7,8] ([])) ?_;simp only[go_sem,a,m,l];refine qI (wc (n.tdiv g,d.tdiv g) ⟨k,f⟩ _) ?_;cases p:jw (n.tdiv g,d.tdiv g)
  ·refine zz ?_;exact qt
  ·refine zz ?_;exact qt
def Qk{x y:Int}(a: -2147483647<=x/\x<=2147483647)(b: -2147483647<=y/\y<=2147483647): -4611686014132420609<=x*y/\x*y<=4611686014132420609:=by
 have:=kD (x:=x) (y:=y) zb zb zb zb;omega
def Vb{p:zL}(h:jw p=true):(-2147483647<=p.1/\p.1<=2147483647)/\(1<=p.2/\p.2<=2147483647):=by
 have h:=(vt p).1 h;have:=h.num;have:=h.den;have:=h.pos;omega
def zna(a b:zL)(k:qp a)(j:qp b):js Tryz.prog 89 [rat a,rat b] (vU (jG a b)):=λh=>by
 rw[<-QH];refine enterSX Tryz.f89 λB=>?_;refine zl (wc a k _) ?_;rintro _ i ⟨rfl,rfl⟩;refine zz ?_;refine zl (wc b j _) ?_;rintro _ i ⟨rfl,rfl⟩;cases d:jw a
 ·have c:jC XE a b=((0,0),20):=by rw[jC,d];rfl
  rw[c];simp only[go_sem,Bool.not_false,qv];exact qt
 cases e:jw b
 ·have c:jC XE a b=((0,0),20):=by rw[jC,d,e];rfl
  rw[c];simp only[go_sem,Bool.not_false,Bool.not_true,qv];exact qt
 obtain⟨a1,a2⟩:=Vb d;obtain⟨b1,b2⟩:=Vb e;have l:=Qk a1 b1;have m:=Qk (x:=a.2) (y:=b.2) zb zb;have g:wr (a.1*b.1)=a.1*b.1:=qb qg;have f:wr (a.2*b.2)=a.2*b.2:=qb qg;have c:jC XE a b=jj (a.1*b.1) (a.2*b.2):=by rw[jC,d,e];show jj (wr (a.1*b.1)) (wr (a.2*b.2))=_;rw[g,f]
 rw[c];simp only[go_sem,Bool.not_true,qv,g,f];refine qI (Xq _ _ zb zb _) ?_;exact qt
def Wt(a b:zL)(m:qp a)(l:qp b):js Tryz.prog 86 [rat a,rat b] (vU (jC Zr a b)):=λh=>by
 refine enterSX Tryz.f86 λB=>?_;refine zl (wc a m _) ?_;rintro _ k ⟨rfl,rfl⟩;refine zz ?_;refine zl (wc b l _) ?_;rintro _ k ⟨rfl,rfl⟩;cases d:jw a
 ·have c:jC Zr a b=((0,0),20):=by rw[jC,d];rfl
  rw[c];simp only[go_sem,Bool.not_false,qv];exact qt
 cases e:jw b
 ·have c:jC Zr a b=((0,0),20):=by rw[jC,d,e];rfl
  rw[c];simp only[go_sem,Bool.not_false,Bool.not_true,qv];exact qt
 obtain⟨a1,a2⟩:=Vb d;obtain⟨b1,b2⟩:=Vb e;have n:=Qk (x:=a.1) (y:=b.2) zb zb;have p:=Qk (x:=b.1) (y:=a.2) zb zb;have o:=Qk (x:=a.2) (y:=b.2) zb zb;have j:wr (a.1*b.2)=a.1*b.2:=qb qg;have f:wr (b.1*a.2)=b.1*a.2:=qb qg;have g:wr (a.2*b.2)=a.2*b.2:=qb qg;have i:wr (a.1*b.2 - b.1*a.2)=a.1*b.2 - b.1*a.2:=qb qg;have c:jC Zr a b=jj (a.1*b.2 - b.1*a.2) (a.2*b.2):=by rw[jC,d,e];show jj (wr (wr (a.1*b.2) - wr (b.1*a.2))) (wr (a.2*b.2))=_;rw[j,f,g,i]
 rw[c];simp only[go_sem,Bool.not_true,qv,j,f,g,i];refine qI (Xq _ _ zb zb _) ?_;exact qt
def kQa(a b:zL)(c:qp a)(d:qp b):js Tryz.prog 86 [rat a,rat b] (vU (vr a b)):=QI a b▸Wt a b c d
def wVa(a b:zL)(g:qp a)(f:qp b):js Tryz.prog 42 [rat a,rat b] (vU (yC a b)):=λh=>by
 refine enterSX Tryz.f42 λB=>?_;refine zl (wc b f _) ?_;rintro _ i ⟨rfl,rfl⟩;cases e:jw b
 ·have c:yC a b=((0,0),20):=by rw[yC,e];rfl
  rw[c];simp only[go_sem,Bool.not_false,qv];exact qt
 cases d:decide (b.1<1);rotate_left
 ·have c:yC a b=((0,0),20):=by rw[yC,e,d];rfl
  rw[c];simp only[go_sem,Bool.not_true,qv,d];exact qt
 have c:yC a b=jG a (b.2,b.1):=by rw[yC,e,d, <-QH];rfl
 rw[c];simp only[go_sem,Bool.not_true,qv,d];refine qI (zna a (b.2,b.1) g ⟨f.2,f.1⟩ _) ?_;exact qt
def Za:∀(A:List zL) (B:List zL) {out:zL},(j0 out A).2=0->j0 out (A++B)=j0 (j0 out A).1 B
 | [],_,_,_=>rfl
 | x::A,B,out,h=>by
   rw[List.cons_append];rw[j0] at h⊢;rw[j0];by_cases q:(jC Zr out (wr (-x.1),x.2)).2≠0
   ·rw[if_pos q] at h;exact absurd h q
   ·rw[if_neg q] at h⊢;rw[if_neg q];exact Za A B h
def zoa(a b:zL):qp (vr a b).1:=vV _ _ _
set_option maxHeartbeats 2000000 in
def r2Sum0(h:List Ob)(x:AV)(l:List zL)(N:∀p∈l,qp p)(R:l.length<9223372036854775808)(D:SlOf h x 2 (l.map qy)):
    ACalls Tryz.prog 85 [x] h λr h'=>r=vU (ZT l)/\h'=h:=by
 refine enterSX Tryz.f85 λB=>?_
 refine wp_loop_a ze (λm T h'=>∃k:Nat,h'=h++[Ob.box 24 [i64 0,i64 0]]/\k<=l.length/\(l.take k).all jw=true/\T 0=x/\T 2= .ptr h.length 0/\T 4=i64 k/\m=l.length - k) l.length
  ⟨0,rfl,zb,rfl,zo,zo,by(simp only[go_sem]<;>rfl),rfl⟩ ?_
 rintro m T h' ⟨k,rfl,O,g,t0,t2,t4,rfl⟩;have j:=D.app [Ob.box 24 [i64 0,i64 0]];have n:=j.rows;simp only[go_sem,t4,t0,n,zc];refine ways (λe=>?_) (λe=>?_)
 ·have a:=dlt e;have d:=qO qy a;have w:=j.at (i:=k) (by simpa using a);have s:(k:Int)<l.length:=zb;have b:=zx a;have f:l.take (k+1)=l.take k++[l[k]]:=(zG a).symm;obtain⟨y,E⟩:∃y,y=l[k]:=⟨_,rfl⟩;rw[<-E] at d f b;simp only[go_sem,t4,t0,d,s,w,n,qy,zc,Int.toNat_natCast,zd];refine zl (wc y (N y b) _) ?_;rintro _ Q ⟨rfl,rfl⟩;cases q:jw y
  ·have J:ZT l=((0,0),20):=by
    unfold ZT;rw[List.all_eq_false.2 ⟨y,b,by rw[q];decide⟩];rfl
   rw[J];simp only[go_sem,t2];exact zm (by simp only[go_sem,t2]<;>try rfl)
  ·simp only[go_sem,t4];refine⟨l.length - (k+1),zb,k+1,zb,?_,t0,t2,qh zb rfl,rfl⟩;rw[f,List.all_append,g,List.all_cons,q];rfl
 ·have u:=jO e;rw[List.take_of_length_le u] at g;have P:ZT l=j0 (0,1) l:=by unfold ZT;rw[if_pos g]
  rw[P];refine zz ?_
  refine wp_loop_a ze (λm T h'=>∃(k:Nat) (o:zL) (L:List Ob),h'=h++(Ob.box 24 [i64 0,i64 0]:: .box 24 [i64 o.1,i64 o.2]::L)/\k<=l.length/\qp o/\j0 (0,1) (l.take k)=(o,0)/\T 0=x/\T 2= .ptr h.length 0/\T 6= .ptr (h.length+1) 0/\T 7=i64 k/\m=l.length - k) l.length
   ⟨0,(0,1),[],zh,zb,⟨by simp[Fit],by simp[Fit]⟩,rfl,by simp only[go_sem,t0],by simp only[go_sem,t2],zo,by(simp only[go_sem]<;>rfl),rfl⟩ ?_
  rintro m T h' ⟨k,o,L,rfl,O,I,c,t0,t2,t6,C,rfl⟩;have j:=D.app (Ob.box 24 [i64 0,i64 0]:: .box 24 [i64 o.1,i64 o.2]::L);have n:=j.rows;simp only[go_sem,C,t0,n,zc];refine ways (λe=>?_) (λe=>?_)
  ·have a:=dlt e;have d:=qO qy a;have w:=j.at (i:=k) (by simpa using a);have s:(k:Int)<l.length:=zb;have b:=zx a;have f:l.take (k+1)=l.take k++[l[k]]:=(zG a).symm;have A:l=l.take k++(l[k]::l.drop (k+1)):=(by rw[<-zP a,qc]);obtain⟨y,E⟩:∃y,y=l[k]:=⟨_,rfl⟩;rw[<-E] at d f b A;refine zz ?_;refine zZ [.res] 1 (oF [1,2,7,8,0,3,4,5,6,9,10,11,12,13,14,15,16,17,18,19] ([])) ?_;have K:∀M,eOf (h++M) x=some 2:=λM=>(D.app M).at (i:=k) (by simpa using a);have F:∀M,zI (h++M) x=some (l.map qy):=λM=>(D.app M).rows;simp only[go_sem,C,t0,t6,d,s,K,F,qy,Int.zero_sub,zc,Int.toNat_natCast,zd];refine qx (Wt o (wr (-y.1),y.2) I ⟨kz _,(N y b).2⟩ _) ?_;have v:qp (jC Zr o (wr (-y.1),y.2)).1:=(by rw[QI];exact zoa _ _);obtain⟨z,G⟩:∃z,z=jC Zr o (wr (-y.1),y.2):=⟨_,rfl⟩;rw[<-G] at v⊢;simp only[go_sem,C,t0,t6];refine ways (λH=>?_) (λH=>?_)
   ·have t:z.2≠0:=by simpa using H
    have J:j0 (0,1) l=((0,0),z.2):=by
     rw[A,Za _ _ (by rw[c]),c];show j0 o (y::_)=_;rw[j0, <-G,if_pos t]
    rw[J];simp only[go_sem,t2];exact zm (by simp only[go_sem,t2]<;>try rfl)
   ·have t:z.2=0:=(by simpa using H);simp only[go_sem,t6,C];refine⟨l.length - (k+1),zb,k+1,z.1,_,rfl,zb,v,?_,t0,t2,qh zb rfl,rfl⟩;rw[f,Za _ _ (by rw[c]),c];show j0 o [y]=_;rw[j0, <-G,if_neg (by simpa using t),j0]
  ·have u:=jO e;rw[List.take_of_length_le u] at c;rw[c];simp only[go_sem,t2,t6];exact zm (by simp only[go_sem,t2,t6]<;>try rfl)
def r2Sum(h:List Ob)(x:AV)(l:List zL)(c:∀p∈l,qp p)(a:l.length<9223372036854775808)(b:SlOf h x 2 (l.map qy)):
    ACalls Tryz.prog 85 [x] h λr h'=>r=vU (jB l)/\h'=h:=qAa l▸r2Sum0 h x l c a b
end Go.Proofs.YtjeehgkolepogaaGreat.Ax
namespace Go.Proofs.YtjeehgkolepogaaGreat.Ax
open Go Go.Proofs
section
variable{L:List Way}{a b n:Nat}{D:Mat}{v:Int}
def EdgeW(L:List Way)(a b:Nat)(m:Int):Prop:=∃w∈L,m=w.2.2/\((a=w.1.toNat/\b=w.2.1.toNat)∨(a=w.2.1.toNat/\b=w.1.toNat))
def EdgeW.sym{m:Int}(h:EdgeW L a b m):EdgeW L b a m:=by
 obtain⟨w,c,e,d⟩:=h;exact⟨w,c,e,d.symm.imp (λq=>⟨q.2,q.1⟩) λq=>⟨q.2,q.1⟩⟩
inductive WkW (L:List Way) (U:Nat->Prop):Nat->Nat->Nat->Int->Prop
 | nil {a:Nat}:U a->WkW L U 0 a a 0
 | cons {k a c b:Nat} {m d:Int}:U a->EdgeW L a c m->WkW L U k c b d->WkW L U (k+1) a b (m+d)
structure WaysIn (n:Nat) (L:List Way):Prop where
 len:∀w∈L,0<=w.2.2/\w.2.2<=10000
 rng:∀w∈L,w.1.toNat<n/\w.2.1.toNat<n
section
variable {n:Nat} {L:List Way}
def WaysIn.edge(i:WaysIn n L){a b:Nat}{m:Int}(h:EdgeW L a b m):0<=m/\a<n/\b<n:=by
 obtain⟨w,c,rfl,d⟩:=h;have:=i.len w c;have:=i.rng w c;rcases d with⟨rfl,rfl⟩|⟨rfl,rfl⟩<;>exact⟨zb,zb,zb⟩
def WkW.nn{U:Nat->Prop}(i:WaysIn n L){k a b:Nat}{d:Int}(h:WkW L U k a b d):0<=d:=by
 induction h with
 | nil _=>exact Int.le_refl _
 | cons _ e _ c=>have:=(i.edge e).1;omega
def WkW.start{U:Nat->Prop}{k a b:Nat}{d:Int}(h:WkW L U k a b d):U a:=by
 cases h with
 | nil h=>exact h
 | cons h _ _=>exact h
def WkW.cut{U:Nat->Prop}(i:WaysIn n L)(a:Nat){k x b:Nat}{d:Int}(h:WkW L U k x b d):
    WkW L (λv=>U v/\v≠a) k x b d∨a=b∨∃c m k2 g,EdgeW L a c m/\WkW L (λv=>U v/\v≠a) k2 c b g/\m+g<=d:=by
 induction h with
 | @nil x h=>
   by_cases e:x=a
   ·exact .inr (.inl e.symm)
   ·exact .inl (.nil ⟨h,e⟩)
 | @cons k x c b m d q j s f=>
   have u:=(i.edge j).1;rcases f with f|f|⟨l,r,k2,g,o,p,t⟩
   ·by_cases e:x=a
    ·subst e;exact .inr (.inr ⟨c,m,k,d,j,f,Int.le_refl _⟩)
    ·exact .inl (.cons ⟨q,e⟩ j f)
   ·exact .inr (.inl f)
   ·exact .inr (.inr ⟨l,r,k2,g,o,p,zb⟩)
def WkW.short(i:WaysIn n L):∀(N:Nat) (V:List Nat),V.length<=N->∀ {U:Nat->Prop} {k a b:Nat} {d:Int},(∀v,U v->v=a∨v∈V)->WkW L U k a b d->∃k' j,k'<=N/\j<=d/\WkW L (λ_=>True) k' a b j:=by
 intro N
 induction N with
 | zero=>
   intro V q U k a b d g h;have q:V=[]:=zy zb;subst q;rcases h.cut i a with f|f|⟨c,m,k2,x,f,l,w⟩
   ·exact absurd rfl f.start.2
   ·subst f;exact⟨0,0,zB _,h.nn i,.nil trivial⟩
   ·obtain⟨p,o⟩:=l.start;rcases g c p with e|e
    ·exact absurd e o
    ·cases e
 | succ N u=>
   intro V q U k a b d g h;rcases h.cut i a with f|f|⟨c,m,k2,x,f,l,w⟩
   ·exact absurd rfl f.start.2
   ·subst f;exact⟨0,0,Nat.zero_le _,h.nn i,.nil trivial⟩
   ·obtain⟨p,o⟩:=l.start;have s:c∈V:=(g c p).resolve_left o
    obtain⟨k',j,y,z,t⟩:=u (V.erase c) (by rw[List.length_erase_of_mem s];omega) (λv r=>by
     by_cases e:v=c
     ·exact .inl e
     ·exact .inr ((List.mem_erase_of_ne e).2 ((g v r.1).resolve_left r.2))) l
    exact⟨k'+1,m+j,zb,zb,.cons trivial f t⟩
def WkW.rng(i:WaysIn n L){U:Nat->Prop}{k a b:Nat}{d:Int}(h:WkW L U k a b d)(c:a<n):WkW L (λv=>v<n) k a b d:=by
 induction h with
 | nil _=>exact .nil c
 | cons _ e _ f=>exact .cons c e (f (i.edge e).2.2)
def WkW.few(i:WaysIn n L){U:Nat->Prop}{k a b:Nat}{d:Int}(h:WkW L U k a b d)(f:a<n):∃k' c,k'<=n/\c<=d/\WkW L (λ_=>True) k' a b c:=
 WkW.short i n (List.range n) (by rw[List.length_range];exact zB _) (λv e=> .inr (jb.2 e)) (h.rng i f)
def WkW.snoc{U:Nat->Prop}{k a b c:Nat}{m d:Int}(h:WkW L U k a b d)(e:EdgeW L b c m)(i:U c):WkW L U (k+1) a c (d+m):=by
 induction h with
 | nil h=>rw[show(0:Int)+m=m+0 by omega];exact .cons h e (.nil i)
 | cons g f _ j=>rw[Int.add_assoc];exact .cons g f (j e)
def WkW.last{U:Nat->Prop}{k a b:Nat}{d:Int}(h:WkW L U (k+1) a b d):∃u m e,WkW L U k a u e/\EdgeW L u b m/\d=e+m:=by
 generalize x:k+1=K at h
 induction h generalizing k with
 | nil _=>omega
 | @cons j a c b m d g f q i=>
   have l:j=k:=zb;subst l;cases q with
   | nil B=>exact⟨a,m,0,.nil g,f,zb⟩
   | @cons z _ y _ C A n v p=>
     obtain⟨u,s,o,r,t,w⟩:=i rfl;exact⟨u,s,m+o,.cons g f r,t,zb⟩
def ByW(L:List Way):Nat->Nat->Nat->Int->Prop
 | 0,a,b,d=>(a=b/\d=0)∨EdgeW L a b d
 | k+1,a,b,d=>ByW L k a b d∨∃e c,ByW L k a k e/\ByW L k k b c/\d=e+c
def ByW.nn(i:WaysIn n L):∀ {k a b:Nat} {d:Int},ByW L k a b d->0<=d
 | 0,_,_,_,h=>by
   rcases h with⟨_,rfl⟩|h
   ·exact Int.le_refl _
   ·exact(i.edge h).1
 | k+1,_,_,_,h=>by
   rcases h with h|⟨f,g,c,e,rfl⟩
   ·exact ByW.nn i h
   ·have:=ByW.nn i c;have:=ByW.nn i e;omega
def ByW.to(i:WaysIn n L):∀ {k a:Nat} {d:Int},ByW L (k+1) a k d->∃b,b<=d/\ByW L k a k b:=λ{k a d} h=>by
 rcases h with h|⟨e,g,c,f,rfl⟩
 ·exact⟨d,Int.le_refl _,h⟩
 ·exact⟨e,by have:=ByW.nn i f;omega,c⟩
def ByW.from_(i:WaysIn n L):∀ {k b:Nat} {d:Int},ByW L (k+1) k b d->∃a,a<=d/\ByW L k k b a:=λ{k b d} h=>by
 rcases h with h|⟨g,f,c,e,rfl⟩
 ·exact⟨d,Int.le_refl _,h⟩
 ·exact⟨f,by have:=ByW.nn i c;omega,e⟩
def ByW.join(i:WaysIn n L):∀ {k c a b:Nat} {r s:Int},c<k->ByW L k a c r->ByW L k c b s->∃d,d<=r+s/\ByW L k a b d
 | 0,_,_,_,_,_,l,_,_=>zb
 | k+1,c,a,b,r,s,l,g,f=>by
   by_cases e:c=k
   ·subst e;obtain⟨u,p,h⟩:=ByW.to i g;obtain⟨t,y,w⟩:=ByW.from_ i f;exact⟨u+t,zb,.inr ⟨u,t,h,w,rfl⟩⟩
   ·have l:c<k:=(by omega);rcases g with g|⟨q,x,g,m,rfl⟩
    ·rcases f with f|⟨v,o,f,j,rfl⟩
     ·obtain⟨d,p,h⟩:=ByW.join i l g f;exact⟨d,p,.inl h⟩
     ·obtain⟨d,p,h⟩:=ByW.join i l g f;exact⟨d+o,zb,.inr ⟨d,o,h,j,rfl⟩⟩
    ·rcases f with f|⟨v,o,f,j,rfl⟩
     ·obtain⟨d,p,h⟩:=ByW.join i l m f;exact⟨q+d,zb,.inr ⟨q,d,g,h,rfl⟩⟩
     ·have:=ByW.nn i m;have:=ByW.nn i f;exact⟨q+o,zb,.inr ⟨q,o,g,j,rfl⟩⟩
def ByW.up{a b:Nat}{d:Int}:∀ {k:Nat} (j:Nat),ByW L k a b d->ByW L (k+j) a b d
 | k,0,h=>h
 | k,j+1,h=> .inl (ByW.up j h)
def WkW.byW(i:WaysIn n L){U:Nat->Prop}{k a b:Nat}{d:Int}(h:WkW L U k a b d):∃e,e<=d/\ByW L n a b e:=by
 induction h with
 | @nil x _=>
   have:=ByW.up (L:=L) (a:=x) (b:=x) (d:=0) (k:=0) n (.inl ⟨rfl,rfl⟩);rw[Nat.zero_add] at this;exact⟨0,Int.le_refl _,this⟩
 | @cons k a c b m d t f r o=>
   obtain⟨e,s,p⟩:=o
   have j:ByW L n a c m:=by
    have:=ByW.up (L:=L) (k:=0) n (.inr f);rw[Nat.zero_add] at this;exact this
   obtain⟨l,q,g⟩:=ByW.join i (i.edge f).2.2 j p;exact⟨l,zb,g⟩
end
def wU(D:Mat)(a b:Nat)(v:Int):Prop:=qm D a b≠ -1/\qm D a b<=v
def MonoM(D c:Mat):Prop:=∀a b v,wU D a b v->wU c a b v
def MonoM.refl(D:Mat):MonoM D D:=λ_ _ _ h=>h
def MonoM.trans{D E F:Mat}(h:MonoM D E)(k:MonoM E F):MonoM D F:=λa b v q=>k a b v (h a b v q)
def xDa(h:Sq n D)(c:a<n)(d:b<n)(v:Int):qm (xU D a b v) a b=v:=by
 obtain⟨r,g,f,e⟩:=ZP h c;unfold qm xU;rw[zn (l:=D.set _ _),zr (by rw[h.1];exact c),Option.getD_some,f,zn,zr (by rw[e];exact d),Option.getD_some]
def QJ(a b:Nat)(c:v≠ -1):MonoM D (jY D a b v):=λa' b' u h=>by
 rcases y9 (D:=D) (a:=a) (b:=b) (a':=a') (b':=b') (n:=v) with e|⟨rfl,rfl,e,q⟩
 ·unfold wU;rw[e];exact h
 ·unfold wU;rw[e];refine⟨c,?_⟩;rcases q with q|q
  ·exact absurd q h.1
  ·have:=h.2;omega
def Xr(h:Sq n D)(d:a<n)(f:b<n)(c:v≠ -1):wU (jY D a b v) a b v:=by
 unfold jY;split
 ·unfold wU;rw[xDa h d f];exact⟨c,Int.le_refl _⟩
 ·rename_i q
  exact⟨λe=>q (.inl e),by
   apply Classical.byContradiction;intro g;exact q (.inr zb)⟩
def ZU(n:Nat)(L:List Way)(D:Mat):Prop:=∀a b,a<n->b<n->qm D a b≠ -1->∃k,WkW L (λ_=>True) k a b (qm D a b)
def WkW.app{k a b:Nat}{d:Int}(h:WkW L (λ_=>True) k a b d):∀ {j c:Nat} {e:Int},WkW L (λ_=>True) j b c e->∃i,WkW L (λ_=>True) i a c (d+e):=by
 induction h with
 | nil _=>intro j c e q;exact⟨j,by rw[Int.zero_add];exact q⟩
 | cons _ f _ g=>
   intro j c e q;obtain⟨i,h⟩:=g q;exact⟨i+1,by rw[Int.add_assoc];exact .cons trivial f h⟩
def ZV(h:ZU n L D)(d:∃k,WkW L (λ_=>True) k a b v):ZU n L (jY D a b v):=λa' b' f c q=>by
 rcases y9 (D:=D) (a:=a) (b:=b) (a':=a') (b':=b') (n:=v) with e|⟨rfl,rfl,e,_⟩
 ·rw[e] at q ⊢;exact h a' b' f c q
 ·rw[e];exact d
def zpa(n a b:Nat):qm (kV n) a b=if a<n/\b<n/\a=b then 0 else if a<n/\b<n then -1 else 0:=by
 unfold qm kV;rw[zn (l:=List.map _ _),zw];by_cases h:a<n
 ·rw[List.getElem?_range h];simp only[Option.map_some,Option.getD_some,V9];rw[zn];by_cases d:b<n
  ·by_cases c:a=b
   ·subst c;rw[zr (by simpa using d),if_pos ⟨h,d,rfl⟩];rfl
   ·rw[zf c,List.getElem?_replicate,if_pos d,if_neg zb,if_pos ⟨h,d⟩];rfl
  ·rw[zR zE,if_neg zb,if_neg zb];rfl
 ·rw[zR (l:=List.range n) zE,if_neg zb,if_neg zb];rfl
section
variable {n:Nat} {L:List Way}
structure TabI (n:Nat) (L:List Way) (k:Nat) (D:Mat):Prop where
 sq:Sq n D
 sound:ZU n L D
 all:∀a b d,a<n->b<n->ByW L k a b d->wU D a b d
structure ViaI (n:Nat) (L:List Way) (B:Int) (y:Nat) (D0 D:Mat):Prop where
 sq:Sq n D
 sound:ZU n L D
 mono:MonoM D0 D
 ph:PH y B D
def ViaI.step(i:WaysIn n L){B:Int}(hB:0<=B/\B<=1152921504606846976){y:Nat}(g:y<n){j D:Mat}(k:ViaI n L B y j D){a b:Nat}(p:a<n)(l:b<n)(c:qm D a y≠ -1):
    ViaI n L B y j (vp b y a D)/\qm (vp b y a D) a y≠ -1/\MonoM D (vp b y a D)/\∀v,wU D y b v->wU (vp b y a D) a b (qm D a y+v):=by
 obtain⟨p1,p2⟩:=zga hB k.ph (a:=a) (b:=b) c;by_cases h:qm D y b= -1
 ·have e:vp b y a D=D:=by unfold vp;rw[if_neg (by simpa using h)]
  rw[e];exact⟨k,c,.refl _,λv q=>absurd h q.1⟩
 ·have e:vp b y a D=jY D a b (wr (qm D a y+qm D y b)):=by unfold vp;rw[if_pos h]
  obtain⟨x,_,o⟩:=k.ph a y;obtain⟨z,_,m⟩:=k.ph y b;have o:=o (.inr rfl);have m:=m (.inl rfl);have f:wr (qm D a y+qm D y b)=qm D a y+qm D y b:=qb qg;have d:qm D a y+qm D y b≠ -1:=zb;obtain⟨k1,u⟩:=k.sound a y p g c;obtain⟨k2,t⟩:=k.sound y b g l h;have r:MonoM D (vp b y a D):=by rw[e,f];exact QJ a b d
  refine⟨⟨?_,?_,k.mono.trans r,p1⟩,p2,r,λv q=>?_⟩
  ·rw[e];exact yx k.sq a b _
  ·rw[e,f];exact ZV k.sound (u.app t)
  ·rw[e,f];obtain⟨s,w⟩:=Xr k.sq p l d;exact⟨s,by have:=q.2;omega⟩
def ViaI.foldB(i:WaysIn n L){B:Int}(hB:0<=B/\B<=1152921504606846976){y:Nat}(j:y<n){m:Mat}{a:Nat}(p:a<n):∀(M:List Nat) {D:Mat},(∀b∈M,b<n)->ViaI n L B y m D->qm D a y≠ -1->
    ViaI n L B y m (M.foldl (λD b=>vp b y a D) D)/\MonoM D (M.foldl (λD b=>vp b y a D) D)/\∀b∈M,∀u v,wU D a y u->wU D y b v->wU (M.foldl (λD b=>vp b y a D) D) a b (u+v)
 | [],D,_,k,_=>⟨k,.refl _,λ_ h=>by cases h⟩
 | b::M,D,o,k,f=>by
   obtain⟨s1,r,e,s⟩:=k.step i hB j p (o b (.head _)) f;obtain⟨t,q,x⟩:=ViaI.foldB i hB j p M (λb w=>o b (.tail _ w)) s1 r;rw[List.foldl_cons];refine⟨t,e.trans q,λc d u v g l=>?_⟩;rcases zK.1 d with rfl|d
   ·have:=s v l;have z:=g.2;exact q _ _ _ ⟨this.1,by have:=this.2;omega⟩
   ·exact x c d u v (e _ _ _ g) (e _ _ _ l)
def ViaI.foldA(i:WaysIn n L){B:Int}(hB:0<=B/\B<=1152921504606846976){y:Nat}(q:y<n){m:Mat}:∀(M:List Nat) {D:Mat},(∀a∈M,a<n)->ViaI n L B y m D->
    ViaI n L B y m (M.foldl (wR n y) D)/\MonoM D (M.foldl (wR n y) D)/\∀a∈M,∀b,b<n->∀u v,wU D a y u->wU D y b v->wU (M.foldl (wR n y) D) a b (u+v)
 | [],D,_,k=>⟨k,.refl _,λ_ h=>by cases h⟩
 | a::M,D,r,k=>by
   have t:=r a (.head _)
   have one:ViaI n L B y m (wR n y D a)/\MonoM D (wR n y D a)/\∀b,b<n->∀u v,wU D a y u->wU D y b v->wU (wR n y D a) a b (u+v):=by
    unfold wR;split
    ·rename_i h;exact⟨k,.refl _,λb _ u v e _=>absurd h e.1⟩
    ·rename_i h;obtain⟨o,g,p⟩:=ViaI.foldB i hB q t (List.range n) (λb d=>jb.1 d) k h;exact⟨o,g,λb d u v e f=>p b (jb.2 d) u v e f⟩
   obtain⟨s1,j,s⟩:=one;obtain⟨o,g,p⟩:=ViaI.foldA i hB q M (λb d=>r b (.tail _ d)) s1;rw[List.foldl_cons];refine⟨o,j.trans g,λc l b d u v e f=>?_⟩;rcases zK.1 l with rfl|l
   ·exact g _ _ _ (s b d u v e f)
   ·exact p c l b d u v (j _ _ _ e) (j _ _ _ f)
def TabI.step(i:WaysIn n L){B:Int}(hB:0<=B/\B<=1152921504606846976){y:Nat}(e:y<n){D:Mat}(k:TabI n L y D)(r:MB D B):TabI n L (y+1) (Ja n D y):=by
 have h0:PH y B D:=λa b=>by
  have:=r a b;exact⟨this.1,zb,λ_=>this.2⟩
 obtain⟨g,p,q⟩:=ViaI.foldA i hB e (List.range n) (λa c=>jb.1 c) (⟨k.sq,k.sound,.refl _,h0⟩:ViaI n L B y D D);refine⟨g.sq,g.sound,λa b d c f h=>?_⟩;rcases h with h|⟨j,l,o,m,rfl⟩
 ·exact p _ _ _ (k.all a b d c f h)
 ·exact q a (jb.2 c) b f j l (k.all a y j c e o) (k.all y b l e f m)
def TabI.fold(i:WaysIn n L):∀(m y:Nat) {B:Int} {D:Mat},y+m<=n->0<=B->B*2 ^ m<=1152921504606846976->TabI n L y D->MB D B->TabI n L (y+m) ((List.range' y m).foldl (Ja n) D)
 | 0,y,B,D,_,_,_,k,_=>k
 | m+1,y,B,D,d,h0,hB,k,b=>by
   have e:B*2 ^ (m+1)=2*B*2 ^ m:=by rw[Int.pow_succ];grind
   have c:(1:Int)<=2 ^ m:=by
    have:0<(2:Int) ^ m:=Int.pow_pos ze;omega
   have f:2*B<=2*B*2 ^ m:=by
    have:=Int.mul_le_mul_of_nonneg_left c (show 0<=2*B by omega);omega
   rw[e] at hB;have a:0<=B/\B<=1152921504606846976:=⟨h0,zb⟩;have:=TabI.fold i m (y+1) zb zb hB (k.step i a zb b) (zha a b);rw[show y+(m+1)=y+1+m by omega];exact this
def Wu(i:WaysIn n L):∀(M:List Way) {D:Mat},(∀w∈M,w∈L)->Sq n D->ZU n L D->Sq n (M.foldl QB D)/\ZU n L (M.foldl QB D)/\MonoM D (M.foldl QB D)/\∀a b m,EdgeW M a b m->wU (M.foldl QB D) a b m
 | [],D,_,h,j=>⟨h,j,.refl _,λa b m ⟨w,f,_⟩=>by cases f⟩
 | w::M,D,p,h,j=>by
   have f:=p w (.head _);obtain⟨l0,_⟩:=i.len w f;obtain⟨s,t⟩:=i.rng w f;have q:EdgeW L w.1.toNat w.2.1.toNat w.2.2:=⟨w,f,rfl,.inl ⟨rfl,rfl⟩⟩;have c:w.2.2≠ -1:=zb
   have wk:∀ {a b:Nat} {m:Int},EdgeW L a b m->∃k,WkW L (λ_=>True) k a b m:=λ{a b m} e=>⟨1,by
    have:=WkW.cons (U:=λ_=>True) trivial e (.nil trivial);rw[Int.add_zero] at this;exact this⟩
   have s1:=yx h w.1.toNat w.2.1.toNat w.2.2;have u:=yx s1 w.2.1.toNat w.1.toNat w.2.2;have n1:=ZV j (wk q);have n2:=ZV n1 (wk q.sym);have A:=QJ (D:=D) w.1.toNat w.2.1.toNat c;have o:=QJ (D:=jY D w.1.toNat w.2.1.toNat w.2.2) w.2.1.toNat w.1.toNat c;have C:=Xr h s t c;have B:=Xr s1 t s c;obtain⟨z,v,l,y⟩:=Wu i M (λx g=>p x (.tail _ g)) u n2;rw[List.foldl_cons];refine⟨z,v,(A.trans o).trans l,λa b m ⟨x,g,r,d⟩=>?_⟩;rcases zK.1 g with rfl|g
   ·subst r;rcases d with⟨rfl,rfl⟩|⟨rfl,rfl⟩
    ·exact l _ _ _ (o _ _ _ C)
    ·exact l _ _ _ B
   ·exact y a b m ⟨x,g,r,d⟩
def xEa{s:Setup}(v:0<=s.places/\s.places<=16)(i:WaysIn s.places.toNat s.ways):TabI s.places.toNat s.ways s.places.toNat (xH s):=by
 obtain⟨n,j⟩:∃n,n=s.places.toNat:=⟨_,rfl⟩;rw[<-j] at i⊢
 have h0:ZU n s.ways (kV n):=λa b c f q=>by
  rw[zpa] at q⊢;by_cases e:a=b
  ·subst e;rw[if_pos ⟨c,c,rfl⟩];exact⟨0,.nil trivial⟩
  ·rw[if_neg zb,if_pos ⟨c,f⟩] at q;exact absurd rfl q
 obtain⟨r,t,u,l⟩:=Wu i s.ways (λw h=>h) (K2 n) h0;have p:=K6 s.ways (zka n) λw m=>by have:=i.len w m;omega
 have k0:TabI n s.ways 0 (s.ways.foldl QB (kV n)):=⟨r,t,λa b d c f h=>by
  rcases h with⟨rfl,rfl⟩|h
  ·refine u a a 0 ?_;unfold wU;rw[zpa,if_pos ⟨c,c,rfl⟩];exact⟨ze,Int.le_refl _⟩
  ·exact l a b d h⟩
 have k:(2:Int) ^ n<=65536:=by
  have o:(2:Nat) ^ n<=2 ^ 16:=Nat.pow_le_pow_right ze zb;have g:((2 ^ n:Nat):Int)<=((2 ^ 16:Nat):Int):=Int.ofNat_le.2 o;rw[Int.natCast_pow] at g;exact g
 have:=TabI.fold i n 0 (B:=10000) zb ze zb k0 p;rw[Nat.zero_add, <-List.range_eq_range'] at this;unfold xH;rw[<-j];exact this
def wV(a b:Int):Int:=if a<0∨(b≥0/\b<a) then b else a
def Q3(n m:Int):Int:=if n<0 then n else wr (n+m)
def yK(u v:Nat)(m:Int)(o:List Int):List Int:=o.set v (wV (o.getD v 0) (Q3 (o.getD u 0) m))
def vK(o:List Int)(w:Way):List Int:=yK w.2.1.toNat w.1.toNat w.2.2 (yK w.1.toNat w.2.1.toNat w.2.2 o)
def kl(n:Nat)(L:List Way)(a:Nat):Nat->List Int
 | 0=>(List.replicate n (-1)).set a 0
 | k+1=>L.foldl vK (kl n L a k)
def Jb(o:List Int)(v:Nat)(d:Int):Prop:=0<=o.getD v 0/\o.getD v 0<=d
def xFa(n:Nat)(o o':List Int):Prop:=∀v d,v<n->Jb o v d->Jb o' v d
structure FromI (n:Nat) (L:List Way) (a:Nat) (B:Int) (o:List Int):Prop where
 len:o.length=n
 val:∀v,v<n->o.getD v 0= -1∨(0<=o.getD v 0/\∃k,WkW L (λ_=>True) k a v (o.getD v 0))
 le:∀v,v<n->o.getD v 0<=B
def ZA{o:List Int}{v:Nat}{x:Int}(h:v<o.length):(o.set v x).getD v 0=x:=by
 rw[zn,zr h];rfl
def Q4{o:List Int}{v w:Nat}{x:Int}(h:v≠w):(o.set v x).getD w 0=o.getD w 0:=by
 rw[zn,zf h, <-zn]
def FromI.rel(i:WaysIn n L){a:Nat}{B:Int}(hB:0<=B/\B<=4611686018427387904){o:List Int}(k:FromI n L a B o){u v:Nat}{m:Int}(e:EdgeW L u v m)(E:m<=10000):
    FromI n L a (B+10000) (yK u v m o)/\xFa n o (yK u v m o)/\∀d,Jb o u d->Jb (yK u v m o) v (d+m):=by
 obtain⟨C,x,s⟩:=i.edge e;have t:v<o.length:=by rw[k.len];exact s
 have A:Q3 (o.getD u 0) m=if o.getD u 0<0 then o.getD u 0 else o.getD u 0+m:=by
  unfold Q3;have:=k.le u x;split
  ·rfl
  ·exact qb qg
 have r:(yK u v m o).getD v 0=wV (o.getD v 0) (Q3 (o.getD u 0) m):=ZA t;have f:∀w,w≠v->(yK u v m o).getD w 0=o.getD w 0:=λw g=>Q4 (Ne.symm g);rw[A] at r;have c:=k.val u x;have p:=k.val v s;have D:=k.le u x;have F:=k.le v s
 have key:(yK u v m o).getD v 0=o.getD v 0∨(0<=o.getD u 0/\(yK u v m o).getD v 0=o.getD u 0+m):=by
  rw[r];unfold wV
  split<;>split<;>rename_i y l<;>first
   | exact .inl rfl
   | (right;exact⟨zb,rfl⟩)
   | (left;rcases c with c|c<;>rcases p with p|p<;>omega)
 refine⟨⟨by unfold yK;rw[qP];exact k.len,λw g=>?_,λw g=>?_⟩,λw d g q=>?_,λd q=>?_⟩
 ·by_cases b:w=v
  ·subst b;rcases key with h|⟨y,l⟩
   ·rw[h];exact p
   ·rw[l];rcases c with c|⟨_,j,c⟩
    ·omega
    ·exact .inr ⟨zb,j+1,c.snoc e trivial⟩
  ·rw[f w b];exact k.val w g
 ·by_cases b:w=v
  ·subst b;rcases key with h|⟨y,l⟩
   ·rw[h];omega
   ·rw[l];omega
  ·rw[f w b];have:=k.le w g;omega
 ·by_cases b:w=v
  ·subst b;unfold Jb at q⊢;rw[r];by_cases z:o.getD u 0<0
   ·rw[if_pos z];unfold wV;split<;>omega
   ·rw[if_neg z];unfold wV;split<;>omega
  ·unfold Jb at q⊢;rw[f w b];exact q
 ·unfold Jb at q⊢;rw[r,if_neg zb];unfold wV;split
  ·omega
  ·omega
def FromI.round(i:WaysIn n L){a:Nat}:∀(M:List Way) {B:Int} {o:List Int},(∀w∈M,w∈L)->0<=B->B+20000*M.length<=4611686018427387904->FromI n L a B o->
    FromI n L a (B+20000*M.length) (M.foldl vK o)/\xFa n o (M.foldl vK o)/\∀u v m d,EdgeW M u v m->Jb o u d->Jb (M.foldl vK o) v (d+m)
 | [],B,o,_,_,_,k=>⟨by simpa using k,λ_ _ _ h=>h,λ_ _ _ _ ⟨w,e,_⟩=>by cases e⟩
 | w::M,B,o,j,h0,hB,k=>by
   have e:=j w (.head _);have s:=i.len w e;obtain⟨C,l⟩:=i.rng w e;have t:EdgeW L w.1.toNat w.2.1.toNat w.2.2:=⟨w,e,rfl,.inl ⟨rfl,rfl⟩⟩;rw[List.length_cons] at hB;have g:B+20000*((M.length+1:Nat):Int)=(B+10000+10000)+20000*(M.length:Int):=zb;obtain⟨a1,a2,a3⟩:=k.rel i zb t s.2;obtain⟨b1,b2,b3⟩:=a1.rel i zb t.sym s.2;obtain⟨z,p,y⟩:=FromI.round i M (λx b=>j x (.tail _ b)) zb zb b1;rw[List.foldl_cons,List.length_cons,g];have f:xFa n o (vK o w):=λx d b q=>b2 x d b (a2 x d b q);refine⟨z,λx d b q=>p x d b (f x d b q),λu v m d ⟨x,b,r,c⟩ q=>?_⟩;rcases zK.1 b with rfl|b
   ·subst r;rcases c with⟨rfl,rfl⟩|⟨rfl,rfl⟩
    ·exact p _ _ l (b2 _ _ l (a3 d q))
    ·exact p _ _ C (b3 d (a2 _ _ l q))
   ·have A:u<n:=(i.edge ⟨x,j x (.tail _ b),r,c⟩).2.1;exact y u v m d ⟨x,b,r,c⟩ (f u d A q)
def QK{a:Nat}(c:a<n)(v:Nat)(b:v<n):((List.replicate n (-1:Int)).set a 0).getD v 0=if a=v then 0 else -1:=by
 by_cases e:a=v
 ·subst e;rw[ZA (by simpa using c),if_pos rfl]
 ·rw[Q4 e,if_neg e,zn,List.getElem?_replicate,if_pos b];rfl
def FromI.all(i:WaysIn n L){a:Nat}(c:a<n)(s:L.length<=64):∀k:Nat,k<=16->FromI n L a (1280000*k) (kl n L a k)/\∀j v d,j<=k->WkW L (λ_=>True) j a v d->Jb (kl n L a k) v d
 | 0,_=>by
   have h0:kl n L a 0=(List.replicate n (-1:Int)).set a 0:=rfl;rw[h0];constructor
   ·refine⟨zh,λv b=>?_,λv b=>?_⟩
    ·rw[QK c v b];by_cases e:a=v
     ·subst e;rw[if_pos rfl];exact .inr ⟨Int.le_refl _,0,.nil trivial⟩
     ·rw[if_neg e];exact .inl rfl
    ·rw[QK c v b];split<;>omega
   ·intro j v d g h;have g:j=0:=zb;subst g;cases h;unfold Jb;rw[QK c a c,if_pos rfl];exact⟨Int.le_refl _,Int.le_refl _⟩
 | k+1,F=>by
   obtain⟨z,o⟩:=FromI.all i c s k zb;obtain⟨f,C,D⟩:=FromI.round i L (λw h=>h) zb zb z;constructor
   ·exact⟨f.len,f.val,λv b=>by have:=f.le v b;show _<=1280000*((k+1:Nat):Int);have e:((L.foldl vK (kl n L a k)).getD v 0)=(kl n L a (k+1)).getD v 0:=rfl;omega⟩
   ·intro j v d g h;by_cases e:j=k+1
    ·subst e;obtain⟨u,m,p,r,t,rfl⟩:=h.last;exact D u v m p t (o k u p (zB _) r)
    ·have b:v<n:=by
      cases h with
      | nil _=>exact c
      | cons _ B q=>
        have l:=(WkW.cons (U:=λ_=>True) trivial B q);have:=l.rng i c;clear l;generalize E:_+1=K at this
        have fin:∀ {K x y:Nat} {d:Int},WkW L (λv=>v<n) K x y d->y<n:=λ{K x y d} h=>by
         induction h with
         | nil h=>exact h
         | cons _ _ _ A=>exact A
        exact fin this
     exact C v d b (o j v d zb h)
def dist_ref{s:Setup}(x:1<=s.places/\s.places<=16)(i:WaysIn s.places.toNat s.ways)(u:s.ways.length<=64){a b:Nat}(c:a<s.places.toNat)(f:b<s.places.toNat):
    (kl s.places.toNat s.ways a s.places.toNat).getD b 0=qm (xH s) a b:=by
 have T:=xEa (s:=s) zb i;obtain⟨r,t⟩:=FromI.all i c u s.places.toNat zb;obtain⟨n,w⟩:∃n,n=s.places.toNat:=⟨_,rfl⟩;rw[<-w] at T r t i c f⊢
 have up:∀d k,WkW s.ways (λ_=>True) k a b d->wU (xH s) a b d:=λd k h=>by
  obtain⟨g,l,o⟩:=h.byW i;have:=T.all a b g c f o;exact⟨this.1,by have:=this.2;omega⟩
 have m:∀d k,WkW s.ways (λ_=>True) k a b d->Jb (kl n s.ways a n) b d:=λd k h=>by
  obtain⟨k',g,l,o,v⟩:=h.few i c;have:=t k' b g l v;exact⟨this.1,by have:=this.2;omega⟩
 rcases r.val b f with h|⟨h0,k,h⟩
 ·rw[h];apply Classical.byContradiction;intro q;obtain⟨k,j⟩:=T.sound a b c f (λe=>q e.symm);have:=(m _ k j).1;omega
 ·have p:=up _ k h;obtain⟨k2,j⟩:=T.sound a b c f p.1;have y:=(m _ k2 j).2;have:=p.2;omega
end
end
open Go.RowKit
set_option maxRecDepth 100000
def zqa(a b:Int):js Tryz.prog 155 [i64 a,i64 b] (i64 (wV a b)):=λh=>by
 have c:wV a b=if(decide (a<0) || (decide (b≥0) && decide (b<a)))=true then b else a:=by
  unfold wV;simp only[Bool.or_eq_true,zi,decide_eq_true_eq]
 refine enterSX Tryz.f155 λB=>?_
 repeat' (refine ways (λe=>?_) (λe=>?_)<;>(first|replace e:=jv e|replace e:=ju e|replace e:=qZ e|replace e:=qY e|skip)<;>simp only[go_sem,e])
 all_goals refine zm ?_<;>(simp only[go_sem,c,Bool.or_true,Bool.true_or,Bool.or_false,Bool.false_or,Bool.and_true,Bool.true_and,Bool.and_false,Bool.false_and,if_true,if_false,Bool.false_eq_true, *]<;>try rfl)
def xGa(a b:Int):js Tryz.prog 156 [i64 a,i64 b] (i64 (Q3 a b)):=λh=>by
 refine enterSX Tryz.f156 λB=>?_;refine ways (λe=>?_) (λe=>?_)
 ·have c:=of_decide_eq_true e;refine zz ?_;exact zm (by simp only[go_sem,Q3,if_pos c]<;>try rfl)
 ·have c:=of_decide_eq_false e;refine zz ?_;exact zm (by simp only[go_sem,Q3,if_neg c]<;>try rfl)
def Vc(u v:Nat)(m:Int)(o:List Int):(yK u v m o).length=o.length:=by unfold yK;rw[qP]
def qBa(o:List Int)(w:Way):(vK o w).length=o.length:=by unfold vK;rw[Vc,Vc]
def Xs:∀(L:List Way) (o:List Int),(L.foldl vK o).length=o.length
 | [],_=>rfl
 | w::L,o=>by rw[List.foldl_cons,Xs L,qBa]
def Zq(n:Nat)(L:List Way)(a:Nat):∀k,(kl n L a k).length=n
 | 0=>by show((List.replicate n (-1:Int)).set a 0).length=n;rw[qP,qu]
 | k+1=>by show(L.foldl vK (kl n L a k)).length=n;rw[Xs,Zq n L a k]
def Ql{o:List Int}{v:Nat}(h:v<o.length):(o.map qQ)[v]? =some [i64 (o.getD v 0)]:=by
 rw[zw,zg h,zn,zg h];rfl
def Wv(u v:Nat)(m:Int)(o:List Int):(o.map qQ).set v [i64 (wV (o.getD v 0) (Q3 (o.getD u 0) m))]=(yK u v m o).map qQ:=by
 unfold yK;rw[List.map_set];rfl
def Xt{n:Nat}:∀l:List Int,jh n (l.map qQ)=true
 | []=>rfl
 | _::l=>by rw[List.map_cons,jh,Xt l];rfl
def v0a{s:Setup}(d:zX s=true):WaysIn s.places.toNat s.ways:=by
 have c:=Jp d;have a:=d;simp only[zX,xA,zi] at a;have b:=a.1.1.1.2;simp only[Bool.not_eq_true',List.any_eq_false] at b;refine⟨λw h=>?_,λw h=>?_⟩
 ·have:=b w h;simp[vN,kY,Qq] at this;omega
 ·have:=c.2 w h;have:=c.1;omega
def Ww{s:Setup}(a:zX s=true):s.ways.length<=64:=by
 simp only[zX,xA,zi] at a;have:=of_decide_eq_true a.1.1.1.1.2;omega
set_option maxHeartbeats 4000000 in
def r9from0(h:List Ob)(s:Setup)(a:SA)(k:SIn h s a)(f:SFit s)(hs:zX s=true)(x:Nat)(hx:x<s.places.toNat):
    ACalls Tryz.prog 144 [qE s a,i64 x] h λr h'=>∃L,h'=h++L/\NoRes L/\New h 1 r ((kl s.places.toNat s.ways x s.places.toNat).map qQ) L:=by
 have hex:∃r h',(∃L,h'=h++L/\NoRes L/\New h 1 r ((kl s.places.toNat s.ways x s.places.toNat).map qQ) L)/\ResK h h':=
  ⟨.sl 1 _,_,⟨[],rfl,kR,λ_ _=>⟨rfl,λ_=>rfl⟩⟩,jp⟩
 obtain⟨⟨p1,p2⟩,W⟩:=Jp hs;have hw64:=Ww hs;obtain⟨n,hn⟩:∃n:Nat,n=s.places.toNat:=⟨_,rfl⟩;have β:s.places=(n:Int):=zb;rw[<-hn] at hex hx⊢;have hn16:n<=16:=zb;obtain⟨O,K⟩:∃b,b=Ob.box 30 (zN s a):=⟨_,rfl⟩;have υ:O.isRes=false:=by rw[K];rfl
 have hB:∀ {H:List Ob},Pre (h++[O]) H->H[h.length]? =some (.box 30 (zN s a)):=λ{H} d=>by
  obtain⟨L,rfl,_⟩:=d;rw[<-K];exact zk (qr rfl)
 refine enterQX Tryz.f144 (λB=>?_) (hex);simp only[go_sem,k.w.one,k.e.one,k.c.one,k.g.one,k.r.one,k.t.one];rw[<-K]
 refine wp_loop_a ze (λm T H=>∃i:Nat,i<=n/\Pre (h++[O]) H/\OwnS (h++[O]) H 3 1 (T 5) ((List.replicate i (-1)).map qQ)/\T 1=i64 x/\T 2= .ptr h.length 0/\T 6=i64 i/\m=n - i) n
  ⟨0,zb,Pre.refl,.inl ⟨zo,rfl⟩,zo,zo,by(simp only[go_sem]<;>rfl),rfl⟩ ?_
 rintro m T H ⟨i,hi,d,α,t1,t2,t6,rfl⟩;have J:=hB d;simp only[go_sem,t6,t2,J,β];refine ways (λe=>?_) (λe=>?_)
 ·have ω:=dlt e;have G:(List.replicate (i+1) (-1:Int)).map qQ=(List.replicate i (-1:Int)).map qQ++[[i64 (-1)]]:=by rw[List.replicate_succ',zD];rfl
  rcases α with⟨t5,z⟩|⟨id,st,q,t5,l⟩
  ·simp only[go_sem,t5,t6];refine⟨n - (i+1),zb,i+1,zb,d.app (zA rfl (zW rfl)),.inr ⟨_,_,by have:=d.len;omega,rfl,?_⟩,t1,t2,qh zb rfl,rfl⟩;rw[G,z,qa rfl];rfl
  ·have ο:(((List.replicate i (-1:Int)).map qQ).length+1)*9<=140737488355328:=(by rw[zc,qu];omega);have hg:∀M,(H++M)[id]? =some (.row 3 1 ((List.replicate i (-1:Int)).map qQ) st):=λM=>zk l;simp only[go_sem,t5,t6,hg,ο];refine⟨n - (i+1),zb,i+1,zb,(d.app (zW rfl)).set q rfl,.inr ⟨id,st+1,q,rfl,?_⟩,t1,t2,qh zb rfl,rfl⟩;rw[G];exact zt (hg _)
 ·have U:=jO e;have τ:i=n:=zb;subst τ;rcases α with⟨t5,z⟩|⟨id,st,q,t5,l⟩
  ·have:i=0:=(by simpa using z);omega
  have Q:((List.replicate i (-1:Int)).map qQ).set x [i64 0]=(kl i s.ways x 0).map qQ:=by
   show _=((List.replicate i (-1:Int)).set x 0).map qQ;rw[List.map_set];rfl
  have S:(x:Int)<((List.replicate i (-1:Int)).map qQ).length:=by rw[zc,qu];omega
  have N:((List.replicate i (-1:Int)).map qQ)[x]? =some [i64 (-1)]:=by
   rw[zw,List.getElem?_replicate,if_pos hx];rfl
  obtain⟨R,hR⟩:∃R,R=(List.replicate i (-1:Int)).map qQ:=⟨_,rfl⟩;rw[<-hR] at l Q S N;simp only[go_sem,t5,t1,l,S,N,Int.toNat_natCast,zd];rw[Q]
  refine wp_loop_a ze (λm T H=>∃(kk id st:Nat),kk<=i/\Pre (h++[O]) H/\(h++[O]).length<=id/\H[id]? =some (.row 3 1 ((kl i s.ways x kk).map qQ) st)/\T 2= .ptr h.length 0/\T 5= .tl id st/\T 7=i64 kk/\m=i - kk) i
   ⟨0,id,st,zb,d.set q rfl,q,zt l,by simp only[go_sem,t2],by simp only[go_sem,t5],by(simp only[go_sem]<;>rfl),rfl⟩ ?_
  clear l N S Q hR J d t1 t2 t5 t6 q;rintro m T H ⟨kk,id,st,hk,d,q,l,t2,t5,Z,rfl⟩;have J:=hB d;simp only[go_sem,Z,t2,J,β];refine ways (λe=>?_) (λe=>?_)
  ·have ω:=dlt e;refine zz ?_
   refine wp_loop_a ze (λm T H=>∃(j:Nat),j<=s.ways.length/\Pre (h++[O]) H/\H[id]? =some (.row 3 1 (((s.ways.take j).foldl vK (kl i s.ways x kk)).map qQ) st)/\T 2= .ptr h.length 0/\T 5= .tl id st/\T 7=i64 kk/\T 8=i64 j/\m=s.ways.length - j) s.ways.length
    ⟨0,zb,d,l,by simp only[go_sem,t2],by simp only[go_sem,t5],by simp only[go_sem,Z],by(simp only[go_sem]<;>rfl),rfl⟩ ?_
   clear l J d t2 t5 Z;rintro m T H ⟨j,hj,d,l,t2,t5,Z,t8,rfl⟩;have J:=hB d;have I:SIn H s a:=d.sin (k.app _);have ζ:=I.w.rows;simp only[go_sem,t8,t2,J,ζ,zc];refine ways (λe2=>?_) (λe2=>?_)
   ·have p:=dlt e2;have F:=qO yR p;have ψ:=I.w.at (i:=j) (by simpa using p);have η:(j:Int)<s.ways.length:=zb;have γ:=zx p;have hw:=W _ γ
    have A:(s.ways.take (j+1)).foldl vK (kl i s.ways x kk)=vK ((s.ways.take j).foldl vK (kl i s.ways x kk)) s.ways[j]:=by
     rw[<-zG p,qK];rfl
    have E:((s.ways.take j).foldl vK (kl i s.ways x kk)).length=i:=(by rw[Xs,Zq]);obtain⟨y,hy⟩:∃y,y=s.ways[j]:=⟨_,rfl⟩;obtain⟨o,hO⟩:∃o,o=(s.ways.take j).foldl vK (kl i s.ways x kk):=⟨_,rfl⟩;rw[<-hy] at F A hw;rw[<-hO] at A l E;obtain⟨y1,y2,m⟩:=y;obtain⟨u,hu⟩:=Int.eq_ofNat_of_zero_le hw.1.1;obtain⟨v,hv⟩:=Int.eq_ofNat_of_zero_le hw.2.1;simp only at hu hv;subst hu hv;have hul:u<i:=(by have:=hw.1.2;simp only at this;omega);have hvl:v<i:=(by have:=hw.2.2;simp only at this;omega);simp only[go_sem,t8,t2,J,F,η,ψ,ζ,yR,zc,Int.toNat_natCast,zd];refine zZ [] 0 (oF [0,1,3,4,8,9,13,2,5,6,7,10,11,12,14] ((15,0,[2,5,6,7])::(16,0,[2])::oF [17,18] ([]))) ?_;have D:∀M,(H++M)[id]? =some (.row 3 1 (o.map qQ) st):=λM=>zk l;have cu:=Ql (o:=o) (v:=u) zb;have cv:=Ql (o:=o) (v:=v) zb;have lu:(u:Int)<o.length:=zb;have lv:(v:Int)<o.length:=zb;simp only[go_sem,t5,D,cu,cv,lu,lv,zc,Int.toNat_natCast,zd];refine zl (xGa _ _ _) ?_;rintro _ h1 ⟨rfl,rfl⟩;simp only[go_sem,t5,D,cu,cv,lu,lv,zc,Int.toNat_natCast,zd];refine zl (zqa _ _ _) ?_;rintro _ h1 ⟨rfl,rfl⟩;have hid:id<H.length:=(zj.1 l).1;have C:∀M X,((H++M).set id X)[id]? =some X:=λM X=>zt (D M);have P:∀b X,((H++[b]).set id X)[H.length]? =some b:=λb X=>(by rw[zf zb];exact qr rfl);have c2:=Wv u v m o;simp only[go_sem,t5,D,cu,cv,lu,lv,c2,zc,Int.toNat_natCast,zd];have Y:(yK u v m o).length=i:=(by rw[Vc];exact E);have φ:vK o ((u:Int),(v:Int),m)=yK v u m (yK u v m o):=rfl;obtain⟨V,δ⟩:∃V,V=yK u v m o:=⟨_,rfl⟩;rw[φ, <-δ] at A;rw[<-δ] at Y⊢;have du:=Ql (o:=V) (v:=u) zb;have dv:=Ql (o:=V) (v:=v) zb;have mu:(u:Int)<V.length:=zb;have mv:(v:Int)<V.length:=zb;refine zZ [] 0 (oF [0,1,3,4,8,9,13,2,5,6,7,10,11,12,14] ((15,0,[2,5,6,7])::(16,0,[2])::oF [17,18] ([]))) ?_;simp only[go_sem,t5,C,P,du,dv,mu,mv,zc,Int.toNat_natCast,zd];refine zl (xGa _ _ _) ?_;rintro _ h1 ⟨rfl,rfl⟩;simp only[go_sem,t5,C,P,du,dv,mu,mv,zc,Int.toNat_natCast,zd];refine qx (zqa _ _ _) ?_;have c3:=Wv v u m V;simp only[go_sem,t5,t8,C,P,du,dv,mu,mv,c3,zc,Int.toNat_natCast,zd];refine⟨s.ways.length - (j+1),zb,j+1,zb,((d.app (zW rfl)).set q rfl).set q rfl,?_,t2,Z,qh zb rfl,rfl⟩;rw[A];exact zt (C _ _)
   ·have U:=jO e2;rw[List.take_of_length_le U] at l;simp only[go_sem,Z];refine⟨i - (kk+1),zb,kk+1,id,st,zb,d,by simpa using q,l,t2,t5,qh zb rfl,rfl⟩
  ·have U:=jO e;have θ:kk=i:=zb;subst θ;simp only[go_sem,t5];exact Qc zo (d.pre (zW υ)) (OwnS.pre (.inr ⟨id,st,q,rfl,l⟩))
def r9from(h:List Ob)(s:Setup)(a:SA)(k:SIn h s a)(f:SFit s)(c:zX s=true)(x:Nat)(b:x<s.places.toNat):
    ACalls Tryz.prog 144 [qE s a,i64 x] h λr h'=>r= .sl 1 ((kl s.places.toNat s.ways x s.places.toNat).map qQ)/\h'=h:=
 wv ze (Xt _) (r9from0 h s a k f c x b)
def r9Dist(h:List Ob)(s:Setup)(a:SA)(k:SIn h s a)(f:SFit s)(d:zX s=true)(x y:Nat)(j:x<s.places.toNat)(i:y<s.places.toNat):
    ACalls Tryz.prog 119 [qE s a,i64 x,i64 y] h λr h'=>r=i64 (qm (xH s) x y)/\h'=h:=by
 have l:decide ((x:Int)<0)=false:=zh;have p:decide ((y:Int)<0)=false:=zh;have ex:decide ((x:Int)≥s.places)=false:=zE;have n:decide ((y:Int)≥s.places)=false:=zE;obtain⟨⟨p1,p2⟩,_⟩:=Jp d;have b:=Ql (o:=kl s.places.toNat s.ways x s.places.toNat) (v:=y) (by rw[Zq];exact i);have m:(y:Int)<((kl s.places.toNat s.ways x s.places.toNat).map qQ).length:=by rw[zc,Zq];omega
 rw[dist_ref ⟨p1,p2⟩ (v0a d) (Ww d) j i] at b;refine enterQX Tryz.f119 λB=>?_;simp only[go_sem,k.w.one,k.e.one,k.c.one,k.g.one,k.r.one,k.t.one];refine zl (Zn _ s a (k.app _) f) ?_;rintro _ q ⟨rfl,rfl⟩;rw[d];simp only[go_sem,l,p,ex,n,qv,Bool.not_true,k.w.one,k.e.one,k.c.one,k.g.one,k.r.one,k.t.one];refine qx (r9from _ s a (k.app _) f d x j) ?_;simp only[go_sem,b,m,Int.toNat_natCast,zd];exact qt
