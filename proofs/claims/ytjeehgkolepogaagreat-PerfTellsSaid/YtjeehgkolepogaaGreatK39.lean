import Derived.Test.YtjeehgkolepogaaGreatK38
set_option linter.all false
namespace Go.Proofs.YtjeehgkolepogaaGreat.Ax
open Go Go.Proofs Go.RowKit
set_option maxRecDepth 100000
def Ks(z:zL × Int)(b:zL):qp (qT z b).1:=by
 unfold qT;split
 ·exact kw
 ·exact vV _ _ _
def Xu(z:zL × Int)(b:zL)(d:qp z.1)(f:qp b):js Tryz.prog 120 [rat z.1,i64 z.2,rat b] (vU (qT z b)):=λh=>by
 refine enterSX Tryz.f120 λB=>?_;refine ways (λe=>?_) (λe=>?_)
 ·have a:z.2≠0:=by simpa using e
  have c:qT z b=((0,0),z.2):=by unfold qT;rw[if_pos a]
  rw[c];refine zz ?_;exact qt
 ·have a:¬ z.2≠0:=by simpa using e
  have c:qT z b=jG z.1 b:=by unfold qT;rw[if_neg a]
  rw[c];refine zz ?_;refine qI (zna z.1 b d f _) ?_;exact qt
def Wx{a b:zL}(d:qp a)(e:qp b):∀p∈[a,b],qp p:=λp c=>by
 rcases zK.1 c with rfl|c
 ·exact d
 ·rw[qA.1 c];exact e
set_option maxHeartbeats 4000000 in
def r10Of(h:List Ob)(s:Setup)(a:SA)(k:SIn h s a)(f:SFit s)(e:Ev):
    ACalls Tryz.prog 83 [qE s a,evV e] h λr h'=>r=vU (jQ s e)/\h'=h:=by
 rw[<-YH];have kk:∀M,SIn (h++M) s a:=λM=>k.app M;refine enterQX Tryz.f83 λB=>?_;simp only[go_sem,k.w.one,k.e.one,k.c.one,k.g.one,k.r.one,k.t.one];refine zl (Zn _ s a (kk _) f) ?_;rintro _ v ⟨rfl,rfl⟩;simp only[go_sem,k.w.one,k.e.one,k.c.one,k.g.one,k.r.one,k.t.one];refine zl (Jn _ s a (kk _) e) ?_;rintro _ v ⟨rfl,rfl⟩;cases U:zX s
 ·have q:ky s e=((0,0),100):=by simp[ky,U]
  rw[q];simp only[go_sem,qv,Bool.not_false];exact qt
 cases q2:km s e
 ·have q:ky s e=((0,0),100):=by simp[ky,q2]
  rw[q];simp only[go_sem,qv,Bool.not_false,Bool.not_true];exact qt
 cases q3:e.kind != 3;rotate_left
 ·have q:ky s e=((0,0),100):=by
   have:(e.kind==3)=false:=(by simpa using q3);simp[ky,this]
  rw[q];simp only[go_sem,q3,qv,Bool.not_true];exact qt
 have J:e.kind=3:=by simpa using q3
 have p:=zda q2 J;obtain⟨x,hx⟩:=Int.eq_ofNat_of_zero_le p.from_.1;obtain⟨y,hy⟩:=Int.eq_ofNat_of_zero_le p.to_.1;simp only[go_sem,q3,qv,Bool.not_true,hx,hy,k.w.one,k.e.one,k.c.one,k.g.one,k.r.one,k.t.one];have ν:x<s.places.toNat:=by have:=p.from_.2;omega
 have W:y<s.places.toNat:=by have:=p.to_.2;omega
 refine zl (r9Dist _ s a (kk _) f U x y ν W) ?_;rintro _ v ⟨rfl,rfl⟩;have o:ZQ s e=qm (xH s) x y:=by unfold ZQ;rw[hx,hy];rfl
 obtain⟨b,hf⟩:∃b,b=qm (xH s) x y:=⟨_,rfl⟩;rw[<-hf] at o⊢;have μ:Fit b:=by rw[hf];exact zea (Xl U) x y
 have n:¬ ((!zX s || (!km s e || !(e.kind==3)))=true):=by rw[U,q2,J];decide
 refine zz ?_;refine ways (λe4=>?_) (λe4=>?_)
 ·have g4:b<0:=of_decide_eq_true e4;have q:ky s e=((0,0),100):=by unfold ky;rw[if_neg n,o,if_pos g4]
  rw[q];refine zz ?_;exact qt
 have g4:¬ b<0:=of_decide_eq_false e4;obtain⟨ie,j⟩:=Int.eq_ofNat_of_zero_le p.element.1;obtain⟨ig,l⟩:=Int.eq_ofNat_of_zero_le p.gear.1;obtain⟨ic,m⟩:=Int.eq_ofNat_of_zero_le p.class_.1;have le:ie<s.elements.length:=by have:=p.element.2;omega
 have V:ig<s.gears.length:=by have:=p.gear.2;omega
 have H:ic<s.classes.length:=by have:=p.class_.2;omega
 have I:(ie:Int)<(s.elements.length:Int):=zb;have τ:(ig:Int)<(s.gears.length:Int):=zb;have ω:(ic:Int)<(s.classes.length:Int):=zb;have eE:∀M,eOf (h++M) a.e=some 4:=λM=>(kk M).e.at (i:=ie) (by simpa using le);have eG:∀M,eOf (h++M) a.g=some 2:=λM=>(kk M).g.at (i:=ig) (by simpa using V);have eC:∀M,eOf (h++M) a.c=some 2:=λM=>(kk M).c.at (i:=ic) (by simpa using H);have rE:∀M,zI (h++M) a.e=some (s.elements.map wO):=λM=>(kk M).e.rows;have rG:∀M,zI (h++M) a.g=some (s.gears.map qy):=λM=>(kk M).g.rows;have rC:∀M,zI (h++M) a.c=some (s.classes.map qy):=λM=>(kk M).c.rows;obtain⟨d,F⟩:∃d,d=vb s.elements e.element:=⟨_,rfl⟩;obtain⟨ge,C⟩:∃ge,ge=kh s.gears e.gear:=⟨_,rfl⟩;obtain⟨u,z⟩:∃u,u=kh s.classes e.class_:=⟨_,rfl⟩
 have gE:(s.elements.map wO)[ie]? =some [i64 d.1.1,i64 d.1.2,i64 d.2.1,i64 d.2.2]:=by
  rw[F,j,zw,zg le];simp[vb,zn,le,wO]
 have gG:(s.gears.map qy)[ig]? =some [i64 ge.1,i64 ge.2]:=by
  rw[C,l,zw,zg V];simp[kh,zn,V,qy]
 have gC:(s.classes.map qy)[ic]? =some [i64 u.1,i64 u.2]:=by
  rw[z,m,zw,zg H];simp[kh,zn,H,qy]
 have T:qp (b,1):=⟨μ,by simp[Fit]⟩
 have ψ:qp ge:=by
  rw[C,l];simp only[kh,Int.toNat_natCast,zn,zg V,Option.getD_some];exact f.gears _ (zx V)
 have ρ:qp u:=by
  rw[z,m];simp only[kh,Int.toNat_natCast,zn,zg H,Option.getD_some];exact f.classes _ (zx H)
 have O:qp d.1/\qp d.2:=by
  rw[F,j];simp only[vb,Int.toNat_natCast,zn,zg le,Option.getD_some];exact f.elements _ (zx le)
 have S:qp (e.units,1):=⟨by have:=p.units;unfold Fit;omega,by simp[Fit]⟩
 have hal:0<=s.allow/\s.allow<=100:=by
  have Y:=U;simp only[zX,xY,zi] at Y;exact vJ (x:=s.allow) Y.1.2.1.1.1.1.1 zh
 have G:wr (100+s.allow)=100+s.allow:=qb qg
 have q:ky s e=if(qT (jG (b,1) s.pace) ge).2≠0 then((0,0),(qT (jG (b,1) s.pace) ge).2) else
   if(jG d.2 (e.units,1)).2≠0 then((0,0),(jG d.2 (e.units,1)).2) else
   if(qT (jB [d.1,(jG d.2 (e.units,1)).1]) u).2≠0 then((0,0),(qT (jB [d.1,(jG d.2 (e.units,1)).1]) u).2) else
   qT (jB [(qT (jG (b,1) s.pace) ge).1,(qT (jB [d.1,(jG d.2 (e.units,1)).1]) u).1]) (jj (100+s.allow) 100).1:=by
  unfold ky;rw[if_neg n,o,if_neg g4, <-F, <-C, <-z,G,kG zb zb]
 rw[q];clear q;refine zz ?_;refine zl (zna (b,1) s.pace T f.pace _) ?_;rintro _ v ⟨rfl,rfl⟩;obtain⟨Z,R⟩:∃Z,Z=jG (b,1) s.pace:=⟨_,rfl⟩;have fx1:qp Z.1:=by rw[R];exact vV _ _ _
 rw[<-R];refine zz ?_;refine zZ [] 0 (oF [1,2,4,0,3,5,6,7,8,9,10,11,12,13] ([])) ?_;simp only[go_sem,j,l,m,eG,rG,gG,τ,zc,Int.toNat_natCast,zd];refine zl (Xu Z ge fx1 ψ _) ?_;rintro _ v ⟨rfl,rfl⟩;obtain⟨A,L⟩:∃A,A=qT Z ge:=⟨_,rfl⟩;have ο:qp A.1:=by rw[L];exact Ks _ _
 rw[<-L];refine zz ?_;refine ways (λe5=>?_) (λe5=>?_)
 ·have g5:A.2≠0:=by simpa using e5
  rw[if_pos g5];refine zz ?_;exact qt
 rw[if_neg (show ¬ A.2≠0 by simpa using e5)];refine zz ?_;refine zZ [.res] 1 (oF [0,2,7,1,3,4,5,6,8,9,10,11,12,13,14,15,16] ([])) ?_;simp only[go_sem,j,l,m,eE,rE,gE,I,zc,Int.toNat_natCast,zd];refine zl (zna d.2 (e.units,1) O.2 S _) ?_;rintro _ v ⟨rfl,rfl⟩;obtain⟨E,P⟩:∃E,E=jG d.2 (e.units,1):=⟨_,rfl⟩;have κ:qp E.1:=by rw[P];exact vV _ _ _
 rw[<-P];refine zz ?_;refine ways (λe6=>?_) (λe6=>?_)
 ·have g6:E.2≠0:=by simpa using e6
  rw[if_pos g6];refine zz ?_;exact qt
 rw[if_neg (show ¬ E.2≠0 by simpa using e6)];refine zz ?_;refine zZ [.res] 1 (oF [0,2,1,3,4,5,6,7,8,9,10,11,12,13,14] ([])) ?_;simp only[go_sem,j,l,m,eE,rE,gE,I,zc,Int.toNat_natCast,zd];refine zl (r2Sum _ _ [d.1,E.1] (Wx O.1 κ) zh ⟨by simp only[go_sem,List.map_cons,List.map_nil,qy],λ_=>zo⟩) ?_;rintro _ v ⟨rfl,rfl⟩;obtain⟨N,Q⟩:∃N,N=jB [d.1,E.1]:=⟨_,rfl⟩;have θ:qp N.1:=by rw[Q];exact Qi _
 rw[<-Q];refine zz ?_;refine zZ [] 0 (oF [1,2,4,0,3,5,6,7,8,9,10,11,12,13] ([])) ?_;simp only[go_sem,j,l,m,eC,rC,gC,ω,zc,Int.toNat_natCast,zd];refine zl (Xu N u θ ρ _) ?_;rintro _ v ⟨rfl,rfl⟩;obtain⟨D,X⟩:∃D,D=qT N u:=⟨_,rfl⟩;have η:qp D.1:=by rw[X];exact Ks _ _
 rw[<-X];refine zz ?_;refine ways (λe7=>?_) (λe7=>?_)
 ·have g7:D.2≠0:=by simpa using e7
  rw[if_pos g7];refine zz ?_;exact qt
 rw[if_neg (show ¬ D.2≠0 by simpa using e7)];refine zz ?_;refine zl (r2Sum _ _ [A.1,D.1] (Wx ο η) zh ⟨by simp only[go_sem,List.map_cons,List.map_nil,qy],λ_=>zo⟩) ?_;rintro _ v ⟨rfl,rfl⟩;obtain⟨x6,K⟩:∃x6,x6=jB [A.1,D.1]:=⟨_,rfl⟩;have fx6:qp x6.1:=by rw[K];exact Qi _
 rw[<-K];simp only[go_sem,G];refine zl (Xq (100+s.allow) 100 zb zb _) ?_;rintro _ v ⟨rfl,rfl⟩;have ζ:qp (jj (100+s.allow) 100).1:=by rw[kG zb zb];exact vD _ _
 refine zz ?_;refine qI (Xu x6 (jj (100+s.allow) 100).1 fx6 ζ _) ?_;exact qt
end Go.Proofs.YtjeehgkolepogaaGreat.Ax
namespace Go.Proofs.YtjeehgkolepogaaGreat.Ax
open Go Go.RowKit
section
variable{h L:List Ob}{x:AV}{l a:List AV}
def FrzTo(h L:List Ob)(x b:AV):Prop:=∀(B:Nat) (w:World) (g:Gh) (a:List Ob),a.length=h.length->HOk B w g (a++L)->∀u,AR (ctx w g (a++L)) x u->AR (ctx w g a) b u
def FrzL(h L:List Ob)(l c:List AV):Prop:=∀(B:Nat) (w:World) (g:Gh) (a:List Ob),a.length=h.length->HOk B w g (a++L)->∀b,ARs (ctx w g (a++L)) l b->ARs (ctx w g a) c b
def FrzTo.lt(b:x.lt h.length=true):FrzTo h L x x:=λB w g c e d u a=>AR.less (wW w g c L) _ _ (by rw[e];exact b) a
def FrzTo.new{e:Nat}{rows:List (List AV)}(d:0<e)(b:jh h.length rows=true)(n:New h e x rows L):FrzTo h L x (.sl e rows):=λB w g i a c u f=>
 KX c d f (n _ a) (λid hid=>by rw[a];exact n.root id hid) (by rw[a];exact b)
def FrzL.nil:FrzL h L [] []:=λ_ _ _ _ _ _ _ h=>h
def FrzL.cons{x c:AV}(k:FrzTo h L x c)(q:FrzL h L l a):FrzL h L (x::l) (c::a):=λB w g d e b m ⟨v,r,f,i,j⟩=>⟨v,r,f,k B w g d e b v i,q B w g d e b r j⟩
def FrzTo.tup(k:FrzL h L l a):FrzTo h L (.tup l) (.tup a):=λB w g f e d u ⟨vs,b,c⟩=>⟨vs,b,k B w g f e d _ c⟩
def XH{P:Program}{f:FuncId}{ar:List AV}{e:AV}(c:ACalls P f ar h λr h'=>∃L,h'=h++L/\NoRes L/\FrzTo h L r e):ACalls P f ar h λr h'=>r=e/\h'=h:=by
 refine⟨c.1,⟨_,_,⟨rfl,rfl⟩,.refl⟩,λφ k B w g vs j hB a=>?_⟩;refine(c.2.2 φ k B w g vs j hB a).mono λn w' ⟨v,r,h',g',m,⟨L,l,_,n1⟩,_,d,i⟩=>?_;subst l;rw[wh k] at d i;have b:(fill φ h).length=h.length:=jH;exact⟨_,_,h,g',m,⟨rfl,rfl⟩,.refl,d.drop rfl (by have:=j.ids;exact this),n1 B w' g' _ b d.ok _ i⟩
end
open Go.Proofs
set_option maxRecDepth 100000
section
variable{s:Setup}{l:List Ev}{w id:Int}
def zra(n:Int):js Tryz.prog 82 [i64 n] (i64 (kT n)):=λh=>by
 have a:kT n=wr ((min (min (max n 0) 32054400) 32054399).tdiv 604800):=by
  unfold kT ofI je;congr 2;omega
 rw[a];refine enterSX Tryz.f82 λB=>?_;refine qx (zba n _) ?_;simp only[go_sem,kB];exact qt
def ke(s:Setup)(w id:Int)(e:Ev):Bool:=km s e && (e.worker==w && (e.kind==3 && e.id==id))
def YL{A R:List Ev}{y:Ev}(c:zS l=A++y::R)(b:A.any (ke s w id)=false)(d:ke s w id y=true):kb s l w id=y:=by
 unfold kb;rw[c,List.find?_append,List.find?_eq_none.2 (λe a=>?_)]
 ·show((Option.none).or (List.find? (ke s w id) (y::R))).getD wQ=y;rw[List.find?_cons_of_pos d];rfl
 ·have:=List.any_eq_false.1 b e a;exact this
def YM(b:(zS l).any (ke s w id)=false):kb s l w id=wQ:=by
 show((zS l).find? (ke s w id)).getD wQ=wQ;rw[List.find?_eq_none.2 (λe a=>List.any_eq_false.1 b e a)];rfl
set_option maxHeartbeats 2000000 in
def r18task(h:List Ob)(s:Setup)(a:SA)(k:SIn h s a)(x:AV)(l:List Ev)(w id:Int)(V:SlOf h x 11 (l.map evC))(O:l.length<1048576):
    ACalls Tryz.prog 84 [qE s a,x,i64 w,i64 id] h λr h'=>r=evV (kb s l w id)/\h'=h:=by
 refine enterQX Tryz.f84 λB=>?_;simp only[go_sem,k.w.one,k.e.one,k.c.one,k.g.one,k.r.one,k.t.one];refine zl (r8Sort _ x l (V.app _) O) ?_;rintro _ X ⟨rfl,rfl⟩;have J:(zS l).length<1048576:=by rw[jl];exact O
 have u:=λA R y=> @YL s l w id A R y;have v:= @YM s l w id;obtain⟨S,P⟩:∃S,S=zS l:=⟨_,rfl⟩;rw[<-P] at J v u⊢;clear P;obtain⟨q,U⟩:∃q,q=kb s l w id:=⟨_,rfl⟩;rw[<-U] at u v⊢;obtain⟨M,F⟩:∃M,M=[Ob.box 30 (zN s a),.box 55 (evC wQ)]:=⟨_,rfl⟩;have N:(h++M)[h.length]? =some (.box 30 (zN s a)):=by rw[F];exact qr rfl
 have D:(h++M)[h.length+1]? =some (.box 55 (evC wQ)):=by rw[F];exact qa (k:=1) rfl
 refine zz ?_
 refine wp_loop_a ze (λm T h'=>∃n:Nat,h'=h++M/\n<=S.length/\(S.take n).any (ke s w id)=false/\T 2=i64 w/\T 3=i64 id/\T 4= .ptr h.length 0/\T 8= .ptr (h.length+1) 0/\T 9= .sl 11 (S.map evC)/\T 10=i64 n/\m=S.length - n) S.length
  ⟨0,by rw[F];rfl,zb,rfl,zo,zo,zo,zo,zo,by(simp only[go_sem]<;>rfl),rfl⟩ ?_
 rintro m T h' ⟨n,rfl,W,i,t2,t3,t4,p,t9,f,rfl⟩;simp only[go_sem,f,t9,zc];refine ways (λe=>?_) (λe=>?_)
 ·have z:=dlt e;have b:=qO evC z;have j:(n:Int)<S.length:=zb;have E:S.take (n+1)=S.take n++[S[n]]:=(zG z).symm;have H:S=S.take n++S[n]::S.drop (n+1):=by rw[<-zP z,qc]
  obtain⟨y,Q⟩:∃y,y=S[n]:=⟨_,rfl⟩;rw[<-Q] at b E H
  have d:ke s w id y=false->(S.take (n+1)).any (ke s w id)=false:=λe=>by
   rw[E,List.any_append,i,List.any_cons,e];rfl
  have fin:n+1<=S.length:=zb;have o:=qh (k:=n) zb rfl;refine zz ?_;refine zZ [] 0 (oF [1,2,0,3,4,5,6] ([])) ?_;simp only[go_sem,f,t9,t4,N,b,j,zc,Int.toNat_natCast,zd,k.w.one,k.e.one,k.c.one,k.g.one,k.r.one,k.t.one];refine qx (Jn _ s a (k.app _) y) ?_;cases I:km s y with
  | false=>
    simp only[go_sem,f,qv];exact⟨S.length - (n+1),zb,n+1,fin,d (by unfold ke;rw[I];rfl),t2,t3,t4,p,t9,o,rfl⟩
  | true=>
    cases C:y.worker==w with
    | false=>
      simp only[go_sem,f,t9,t2,C,qv,b,j,zc,Int.toNat_natCast,zd];exact⟨S.length - (n+1),zb,n+1,fin,d (by unfold ke;rw[C,Bool.false_and,Bool.and_false]),t3,t4,p,o,rfl⟩
    | true=>
      cases G:y.kind==3 with
      | false=>
        simp only[go_sem,f,t9,t2,C,G,qv,b,j,zc,Int.toNat_natCast,zd];exact⟨S.length - (n+1),zb,n+1,fin,d (by unfold ke;rw[G,Bool.false_and,Bool.and_false,Bool.and_false]),t3,t4,p,o,rfl⟩
      | true=>
        cases hi:y.id==id with
        | false=>
          simp only[go_sem,f,t9,t2,t3,C,G,hi,qv,b,j,zc,Int.toNat_natCast,zd];exact⟨S.length - (n+1),zb,n+1,fin,d (by unfold ke;rw[hi,Bool.and_false,Bool.and_false,Bool.and_false]),t4,p,o,rfl⟩
        | true=>
          have K:=u _ _ _ H i (by unfold ke;rw[I,C,G,hi];rfl);rw[K];simp only[go_sem,f,t9,t2,t3,p,C,G,hi,D,qv,b,j,zc,Int.toNat_natCast,zd];rw[F];exact zm (by simp only[go_sem,p]<;>try rfl)
 ·have L:=jO e;rw[List.take_of_length_le L] at i;rw[v i];simp only[go_sem,p,D];rw[F];exact zm (by simp only[go_sem,p]<;>try rfl)
end
def kX(s:Setup)(w k:Int)(e:Ev):Bool:=km s e && (e.worker==w && (e.kind==7 && kT e.at_==k))
set_option maxHeartbeats 2000000 in
def r18faults(h:List Ob)(s:Setup)(a:SA)(k:SIn h s a)(x:AV)(l:List Ev)(w wk:Int)(L:SlOf h x 11 (l.map evC))(P:l.length<1048576):
    ACalls Tryz.prog 40 [qE s a,x,i64 w,i64 wk] h λr h'=>r=i64 (kc s l w wk)/\h'=h:=by
 have O:kc s l w wk=(l.filter (kX s w wk)).length:=rfl;rw[O];refine enterQX Tryz.f40 λB=>?_;simp only[go_sem,k.w.one,k.e.one,k.c.one,k.g.one,k.r.one,k.t.one];obtain⟨M,G⟩:∃M,M=[Ob.box 30 (zN s a)]:=⟨_,rfl⟩;have K:(h++M)[h.length]? =some (.box 30 (zN s a)):=by rw[G];exact qr rfl
 rw[<-G];have f:=(L.app M).rows
 refine wp_loop_a ze (λm T h'=>∃n:Nat,h'=h++M/\n<=l.length/\T 1=x/\T 2=i64 w/\T 3=i64 wk/\T 4= .ptr h.length 0/\T 9=i64 (((l.take n).filter (kX s w wk)).length:Nat)/\T 10=i64 n/\m=l.length - n) l.length
  ⟨0,rfl,zb,zo,zo,zo,zo,by(simp only[go_sem]<;>rfl),by(simp only[go_sem]<;>rfl),rfl⟩ ?_
 rintro m T h' ⟨n,rfl,Q,t1,t2,t3,t4,t9,b,rfl⟩;simp only[go_sem,b,t1,f,zc];refine ways (λe=>?_) (λe=>?_)
 ·have v:=dlt e;have d:=qO evC v;have q:=(L.app M).at (i:=n) (by simpa using v);have o:(n:Int)<l.length:=zb;have u:=Zo (kX s w wk) v;have E:((l.take n).filter (kX s w wk)).length<=n:=Nat.le_trans (qj _ _) (by rw[zT];omega);obtain⟨y,N⟩:∃y,y=l[n]:=⟨_,rfl⟩;rw[<-N] at d u;obtain⟨F,J⟩:∃F,F=((l.take n).filter (kX s w wk)).length:=⟨_,rfl⟩;have p:kX s w wk y=false->((l.take (n+1)).filter (kX s w wk)).length=F:=λe=>by rw[u,e,J];simp
  have A:kX s w wk y=true->((l.take (n+1)).filter (kX s w wk)).length=F+1:=λe=>by rw[u,e,J];simp
  rw[<-J] at t9 E;have fin:n+1<=l.length:=zb;have j:=qh (k:=n) zb rfl;have H:=qh (k:=F) zb rfl;refine zz ?_;refine zZ [] 0 (oF [1,2,0,3,4,5,6] ([])) ?_;simp only[go_sem,b,t1,t4,K,d,o,q,f,zc,Int.toNat_natCast,zd,k.w.one,k.e.one,k.c.one,k.g.one,k.r.one,k.t.one];refine zl (Jn _ s a (k.app _) y) ?_;rintro _ R ⟨rfl,rfl⟩;cases C:km s y with
  | false=>
    simp only[go_sem,b,qv];exact⟨l.length - (n+1),zb,n+1,fin,t1,t2,t3,t4,by rw[p (by unfold kX;rw[C];rfl)];exact t9,j,rfl⟩
  | true=>
    cases z:y.worker==w with
    | false=>
      simp only[go_sem,b,t1,t2,z,qv,d,o,q,f,zc,Int.toNat_natCast,zd];exact⟨l.length - (n+1),zb,n+1,fin,t3,t4,by rw[p (by unfold kX;rw[z,Bool.false_and,Bool.and_false])];exact t9,j,rfl⟩
    | true=>
      cases D:y.kind==7 with
      | false=>
        simp only[go_sem,b,t1,t2,z,D,qv,d,o,q,f,zc,Int.toNat_natCast,zd];exact⟨l.length - (n+1),zb,n+1,fin,t3,t4,by rw[p (by unfold kX;rw[D,Bool.false_and,Bool.and_false,Bool.and_false])];exact t9,j,rfl⟩
      | true=>
        simp only[go_sem,b,t1,t2,z,D,qv,d,o,q,f,zc,Int.toNat_natCast,zd];refine qx (zra _ _) ?_;cases hi:kT y.at_==wk with
        | false=>
          simp only[go_sem,b,t3,hi,qv];exact⟨l.length - (n+1),zb,n+1,fin,t1,t2,t4,by rw[p (by unfold kX;rw[hi,Bool.and_false,Bool.and_false,Bool.and_false])];exact t9,j,rfl⟩
        | true=>
          simp only[go_sem,b,t3,t9,hi,qv];exact⟨l.length - (n+1),zb,n+1,fin,t1,t2,t4,by rw[A (by unfold kX;rw[C,z,D,hi];rfl)];exact H,j,rfl⟩
 ·have I:=jO e;rw[List.take_of_length_le I] at t9;simp only[go_sem,t9];rw[G];exact qt
def r18earned(h:List Ob)(s:Setup)(a:SA)(k:SIn h s a)(f:0<=s.fault/\s.fault<=86400)(x:AV)(G:List zL)(m:Nat)(D:m<1048576)(C:∀p∈G,qp p)(v:G.length<9223372036854775808)(y:SlOf h x 2 (G.map qy)):
    ACalls Tryz.prog 39 [qE s a,x,i64 m] h λr h'=>r=vU (jq s.fault (jB G) m)/\h'=h:=by
 refine enterQX Tryz.f39 λB=>?_;simp only[go_sem,k.w.one,k.e.one,k.c.one,k.g.one,k.r.one,k.t.one];refine zl (r2Sum _ x G C v (y.app _)) ?_;rintro _ A ⟨rfl,rfl⟩;obtain⟨S,i⟩:∃S,S=jB G:=⟨_,rfl⟩;have o:qp S.1:=by rw[i];exact Qi _
 rw[<-i];refine zz ?_;refine ways (λe=>?_) (λe=>?_)
 ·have g:S.2≠0:=by simpa using e
  have z:jq s.fault S m=((0,0),S.2):=by unfold jq;rw[if_pos g]
  rw[z];refine zz ?_;exact qt
 have u:¬ S.2≠0:=by simpa using e
 have l:0<=s.fault*(m:Int)/\s.fault*(m:Int)<=9223372036854775807:=by
  refine⟨Int.mul_nonneg f.1 zb,?_⟩;have:=Int.mul_le_mul f.2 (show(m:Int)<=1048576 by omega) zb ze;omega
 have d:wr (s.fault*(m:Int))=s.fault*(m:Int):=qb qg
 have j:jq s.fault S m=if(jj (s.fault*m) 1).2≠0 then((0,0),(jj (s.fault*m) 1).2) else
   if(vr S.1 (jj (s.fault*m) 1).1).2≠0 then((0,0),(vr S.1 (jj (s.fault*m) 1).1).2) else
   if(vr S.1 (jj (s.fault*m) 1).1).1.1<0 then((0,1),0) else((vr S.1 (jj (s.fault*m) 1).1).1,0):=by
  unfold jq;rw[if_neg u,d,kG zb zb]
 rw[j];clear j;simp only[go_sem,d];refine zl (Xq (s.fault*m) 1 zb zb _) ?_;rintro _ A ⟨rfl,rfl⟩;have n:qp (jj (s.fault*m) 1).1:=by rw[kG zb zb];exact vD _ _
 obtain⟨b,l⟩:∃b,b=jj (s.fault*m) 1:=⟨_,rfl⟩;rw[<-l] at n⊢;refine zz ?_;refine ways (λe=>?_) (λe=>?_)
 ·have g:b.2≠0:=by simpa using e
  rw[if_pos g];refine zz ?_;exact qt
 rw[if_neg (show ¬ b.2≠0 by simpa using e)];refine zz ?_;refine qx (kQa S.1 b.1 o n _) ?_;obtain⟨c,q⟩:∃c,c=vr S.1 b.1:=⟨_,rfl⟩;rw[<-q];refine zz ?_;refine ways (λe=>?_) (λe=>?_)
 ·have g:c.2≠0:=by simpa using e
  rw[if_pos g];refine zz ?_;exact qt
 rw[if_neg (show ¬ c.2≠0 by simpa using e)];refine zz ?_;refine ways (λe=>?_) (λe=>?_)
 ·rw[if_pos (of_decide_eq_true e)];refine zz ?_;exact qt
 ·rw[if_neg (of_decide_eq_false e)];refine zz ?_;exact qt
def ZW{n:Nat}:∀l:List zL,jh n (l.map qy)=true
 | []=>rfl
 | _::l=>by rw[List.map_cons,jh,ZW l];rfl
def qCa(A:List Seg)(g:Seg):xO (A++[g])=wr (wr (xO A+g.to_) - g.from_):=by unfold xO;rw[qK];rfl
def xHa{s:Setup}{l:List Ev}{w:Int}(A:List Seg)(g:Seg):xy s l w (A++[g])=if xy s l w A=0 then(jQ s (kb s l w g.id)).2 else xy s l w A:=by unfold xy;rw[qK];rfl
abbrev vu(s:Setup)(l:List Ev)(w:Int)(a:List Seg):List zL:=a.map λg=>(jQ s (kb s l w g.id)).1
set_option maxHeartbeats 4000000 in
def r18goals0(h:List Ob)(s:Setup)(a:SA)(k:SIn h s a)(f:SFit s)(x:AV)(l:List Ev)(w wk:Int)(hx:SlOf h x 11 (l.map evC))(hl:l.length<262144):
    ACalls Tryz.prog 38 [qE s a,x,i64 w,i64 wk] h λr h'=>∃L,h'=h++L/\NoRes L/\FrzTo h L r (.tup [.sl 2 ((vu s l w ((qq s l w).1.filter (qn wk))).map qy),i64 (xO ((qq s l w).1.filter (qn wk))),i64 (xy s l w ((qq s l w).1.filter (qn wk)))]):=by
 have ν:=y8 (s:=s) (l:=l) (w:=w);obtain⟨S,hS⟩:∃S,S=(qq s l w).1:=⟨_,rfl⟩;rw[<-hS] at ν⊢
 have hex:∃r h',(∃L,h'=h++L/\NoRes L/\FrzTo h L r (.tup [.sl 2 ((vu s l w (S.filter (qn wk))).map qy),i64 (xO (S.filter (qn wk))),i64 (xy s l w (S.filter (qn wk)))]))/\ResK h h':=
  ⟨_,h,⟨[],zh,kR,.tup (.cons (.lt (ZW _)) (.cons (.lt rfl) (.cons (.lt rfl) .nil)))⟩,.refl⟩
 obtain⟨bx,P⟩:∃b,b=Ob.box 30 (zN s a):=⟨_,rfl⟩;have ι:bx.isRes=false:=by rw[P];rfl
 have hB:∀ {H:List Ob},Pre (h++[bx]) H->∀M,(H++M)[h.length]? =some (.box 30 (zN s a)):=λ{H} A M=>by
  obtain⟨L,rfl,_⟩:=A;rw[<-P];exact zk (zk (qr rfl))
 refine enterQX Tryz.f38 (λB=>?_) (hex);simp only[go_sem,k.w.one,k.e.one,k.c.one,k.g.one,k.r.one,k.t.one];refine qx (r12Of _ s a (k.app _) f x l w (hx.app _) zb) ?_;rw[<-hS, <-P];refine zz ?_
 refine wp_loop_a ze (λm T H=>∃n:Nat,n<=S.length/\Pre (h++[bx]) H/\OwnS (h++[bx]) H 24 2 (T 13) ((vu s l w ((S.take n).filter (qn wk))).map qy)/\T 1=x/\T 2=i64 w/\T 3=i64 wk/\T 4= .ptr h.length 0/\T 11= .sl 5 (S.map qU)/\T 14=i64 (xO ((S.take n).filter (qn wk)))/\T 15=i64 (xy s l w ((S.take n).filter (qn wk)))/\T 16=i64 n/\m=S.length - n) S.length
  ⟨0,zb,Pre.refl,.inl ⟨zo,rfl⟩,zo,zo,zo,zo,zo,by(simp only[go_sem]<;>rfl),by(simp only[go_sem]<;>rfl),by(simp only[go_sem]<;>rfl),rfl⟩ ?_
 rintro m T H ⟨n,hn,A,O,t1,t2,t3,t4,p,o,q,u,rfl⟩;simp only[go_sem,u,p,zc];refine ways (λe=>?_) (λe=>?_)
 ·have α:=dlt e;have j:=qO qU α;have v:(n:Int)<S.length:=zb;have N:=Zo (qn wk) α;have U:((S.take n).filter (qn wk)).length<=n:=Nat.le_trans (qj _ _) (by rw[zT];omega);obtain⟨y,hy⟩:∃y,y=S[n]:=⟨_,rfl⟩;rw[<-hy] at j N;obtain⟨F,hF⟩:∃F,F=(S.take n).filter (qn wk):=⟨_,rfl⟩;rw[<-hF] at N U O o q;have fin:n+1<=S.length:=zb;have G:=qh (k:=n) zb rfl;have D:qn wk y=false->(S.take (n+1)).filter (qn wk)=F:=λe=>by rw[N,e];simp
  have i:qn wk y=true->(S.take (n+1)).filter (qn wk)=F++[y]:=λe=>by rw[N,e];simp
  cases hk:y.kind != 1 with
  | true=>
    have d:qn wk y=false:=by
     have:(y.kind==1)=false:=(by simpa using hk);unfold qn;rw[this];rfl
    simp only[go_sem,u,p,hk,qv,j,v,zc,Int.toNat_natCast,zd];exact⟨S.length - (n+1),zb,n+1,fin,A,by rw[D d];exact O,t1,t2,t3,t4,by rw[D d];exact o,by rw[D d];exact q,G,rfl⟩
  | false=>
    have σ:(y.kind==1)=true:=(by simpa using hk);simp only[go_sem,u,p,hk,qv,j,v,zc,Int.toNat_natCast,zd];refine zl (zra _ _) ?_;rintro _ H ⟨rfl,rfl⟩;cases hw:kT y.from_ != wk with
    | true=>
      have d:qn wk y=false:=by
       have:(kT y.from_==wk)=false:=(by simpa using hw);unfold qn;rw[this,Bool.and_false]
      simp only[go_sem,u,t3,hw,qv];exact⟨S.length - (n+1),zb,n+1,fin,A,by rw[D d];exact O,t1,t2,t4,p,by rw[D d];exact o,by rw[D d];exact q,G,rfl⟩
    | false=>
      have d:qn wk y=true:=by
       have:(kT y.from_==wk)=true:=(by simpa using hw);unfold qn;rw[this,σ];rfl
      have hb:=hB A;have ρ:=hb [];rw[zJ] at ρ;simp only[go_sem,t3,hw,qv];refine zZ [.res] 1 (oF [2,3,4,5,0,1,6,7,8] ((9,0,[0])::oF [10,11,12,13,14,15,16] ([]))) ?_;simp only[go_sem,t1,t2,t4,u,p,hb,j,v,zc,Int.toNat_natCast,zd,k.w.one,k.e.one,k.c.one,k.g.one,k.r.one,k.t.one];refine zl (r18task _ s a ((A.sin (k.app _)).app _) x l w y.id ((A.sl (hx.app _)).app _) zb) ?_;rintro _ h3 ⟨rfl,rfl⟩;simp only[go_sem,t1,t2,t4,u,p,hb,j,v,zc,Int.toNat_natCast,zd,k.w.one,k.e.one,k.c.one,k.g.one,k.r.one,k.t.one];refine qx (r10Of _ s a ((A.sin (k.app _)).app _) f _) ?_;obtain⟨z,hz⟩:∃z,z=jQ s (kb s l w y.id):=⟨_,rfl⟩;have Q:xy s l w (F++[y])=if xy s l w F=0 then z.2 else xy s l w F:=(by rw[xHa, <-hz]);have I:(vu s l w (F++[y])).map qy=(vu s l w F).map qy++[qy z.1]:=(by rw[hz];simp only[vu,zD];rfl);have J:=qCa F y;have ξ:((vu s l w F).map qy).length<=n:=(by rw[zc,zc];exact U);rw[<-hz];obtain⟨E,hE⟩:∃E,E=xO F:=⟨_,rfl⟩;obtain⟨W,hW⟩:∃W,W=xy s l w F:=⟨_,rfl⟩;obtain⟨R,hR⟩:∃R,R=(vu s l w F).map qy:=⟨_,rfl⟩;rw[<-hR] at I ξ O;rw[<-hE] at J o;rw[<-hW] at Q q;have Y:(R.length+1)*17<=140737488355328:=zb;simp only[go_sem,q];refine ways (λe3=>?_) (λe3=>?_)
      ·have X:xy s l w (F++[y])=z.2:=(by rw[Q,if_pos (by simpa using e3)]);rcases O with⟨C,K⟩|⟨id,st,q1,C,q3⟩
       ·simp only[go_sem,C];refine zZ [] 0 (oF [0,1,2,7,8,3,4,5,6,9,10,11,12,13] ([])) ?_;simp only[go_sem,o,u,p,j,v,zc,Int.toNat_natCast,zd];refine⟨S.length - (n+1),zb,n+1,fin,A.app (zA rfl (zA rfl (zW rfl))),.inr ⟨H.length+2,0,by have:=A.len;omega,rfl,?_⟩,t1,t2,t3,t4,by rw[i d,J],by rw[i d,X],G,rfl⟩;rw[i d,I,K,qa (k:=2) rfl];rfl
       ·have V:∀M,(H++M)[id]? =some (.row 24 2 R st):=λM=>zk q3;simp only[go_sem,C,V,Y];refine zZ [] 0 (oF [0,1,2,7,8,3,4,5,6,9,10,11,12,13] ([])) ?_;simp only[go_sem,o,u,p,j,v,zc,Int.toNat_natCast,zd];refine⟨S.length - (n+1),zb,n+1,fin,(A.app (zA rfl (zW rfl))).set q1 rfl,.inr ⟨id,st+1,q1,rfl,?_⟩,t1,t2,t3,t4,by rw[i d,J],by rw[i d,X],G,rfl⟩;rw[i d,I];exact zt (V _)
      ·have X:xy s l w (F++[y])=W:=(by rw[Q,if_neg (by simpa using e3)]);rcases O with⟨C,K⟩|⟨id,st,q1,C,q3⟩
       ·simp only[go_sem,C];refine zZ [] 0 (oF [0,1,2,7,8,3,4,5,6,9,10,11,12,13] ([])) ?_;simp only[go_sem,o,u,p,j,v,zc,Int.toNat_natCast,zd];refine⟨S.length - (n+1),zb,n+1,fin,A.app (zA rfl (zA rfl (zW rfl))),.inr ⟨H.length+2,0,by have:=A.len;omega,rfl,?_⟩,t1,t2,t3,t4,by rw[i d,J],by rw[i d,X];exact q,G,rfl⟩;rw[i d,I,K,qa (k:=2) rfl];rfl
       ·have V:∀M,(H++M)[id]? =some (.row 24 2 R st):=λM=>zk q3;simp only[go_sem,C,V,Y];refine zZ [] 0 (oF [0,1,2,7,8,3,4,5,6,9,10,11,12,13] ([])) ?_;simp only[go_sem,o,u,p,j,v,zc,Int.toNat_natCast,zd];refine⟨S.length - (n+1),zb,n+1,fin,(A.app (zA rfl (zW rfl))).set q1 rfl,.inr ⟨id,st+1,q1,rfl,?_⟩,t1,t2,t3,t4,by rw[i d,J],by rw[i d,X];exact q,G,rfl⟩;rw[i d,I];exact zt (V _)
 ·have κ:=jO e;rw[List.take_of_length_le κ] at O o q;obtain⟨E,hE⟩:∃E,E=xO (S.filter (qn wk)):=⟨_,rfl⟩;obtain⟨W,hW⟩:∃W,W=xy s l w (S.filter (qn wk)):=⟨_,rfl⟩;rw[<-hE] at o⊢;rw[<-hW] at q⊢;simp only[go_sem,o,q];obtain⟨L,hL,hN⟩:=A.pre (zW ι);have Z:=O.pre;rw[hL] at Z;refine⟨.tup [T 13,i64 E,i64 W],zo,.inl ⟨L,hL,hN,?_⟩⟩;exact .tup (.cons (.new ze (ZW _) (Z.new (zB _))) (.cons (.lt rfl) (.cons (.lt rfl) .nil)))
def r18goals(h:List Ob)(s:Setup)(a:SA)(k:SIn h s a)(f:SFit s)(x:AV)(l:List Ev)(w wk:Int)(b:SlOf h x 11 (l.map evC))(c:l.length<262144):
    ACalls Tryz.prog 38 [qE s a,x,i64 w,i64 wk] h λr h'=>r= .tup [.sl 2 ((vu s l w ((qq s l w).1.filter (qn wk))).map qy),i64 (xO ((qq s l w).1.filter (qn wk))),i64 (xy s l w ((qq s l w).1.filter (qn wk)))]/\h'=h:=
 XH (r18goals0 h s a k f x l w wk b c)
attribute [go_sem] v3a
abbrev wWa(v:PerfV):AV:= .ag [i64 v.earned.1,i64 v.earned.2,i64 v.eligible,i64 v.perf.1,i64 v.perf.2,i64 v.err]
def xIa{s:Setup}(h:zX s=true):0<=s.fault/\s.fault<=86400:=by
 simp only[zX,xY,zi] at h
 first
  | exact vJ (x:=s.fault) h.1.2.1.1.2 zh
  | exact vJ (x:=s.fault) h.1.2.1.2 zh
  | exact vJ (x:=s.fault) h.1.2.2 zh
  | exact vJ (x:=s.fault) h.1.2.1.1.1.2 zh
  | exact vJ (x:=s.fault) h.1.2.1.1.1.1.2 zh
def kRa{s:Setup}{l:List Ev}{w k:Int}:kc s l w k<=l.length:=qj _ _
def xJa(F:Int)(S:zL × Int)(m:Nat):qp (jq F S m).1:=by
 unfold jq;split
 ·exact kw
 ·split
  ·exact kw
  ·split
   ·exact kw
   ·split
    ·exact⟨by simp[Fit],by simp[Fit]⟩
    ·exact zoa _ _
set_option maxHeartbeats 4000000 in
def r18Of(h:List Ob)(s:Setup)(a:SA)(k:SIn h s a)(f:SFit s)(x:AV)(l:List Ev)(w wk:Int)(H:SlOf h x 11 (l.map evC))(L:l.length<262144):
    ACalls Tryz.prog 8 [qE s a,x,i64 w,i64 wk] h λr h'=>r=wWa (y0 s l w wk)/\h'=h:=by
 rw[<-YJ];refine enterQX Tryz.f8 λB=>?_;simp only[go_sem,k.w.one,k.e.one,k.c.one,k.g.one,k.r.one,k.t.one];refine zl (Zn _ s a (k.app _) f) ?_;rintro _ q ⟨rfl,rfl⟩;cases u:zX s
 ·have z:Zp s l w wk=⟨(0,1),0,(0,1),0⟩:=by unfold Zp;rw[if_neg (by rw[u];decide)]
  rw[z];simp only[go_sem,Bool.not_false];exact qt
 have I:=(stream_rise (s:=s) (l:=l) (w:=w) u).1;have b:=(Wq I wk).1;rw[<-Wp I wk, <-Xp] at b;have R:=y8 (s:=s) (l:=l) (w:=w)
 have K:∀p∈vu s l w ((qq s l w).1.filter (qn wk)),qp p:=λp S=>by
  obtain⟨g,_,rfl⟩:=zQ.1 S;exact Ko s _
 have d:(vu s l w ((qq s l w).1.filter (qn wk))).length<9223372036854775808:=by
  rw[zc];exact Nat.lt_of_le_of_lt (qj _ _) zb
 have O:=kRa (s:=s) (l:=l) (w:=w) (k:=wk);have z:Zp s l w wk=wL s.fault (xy s l w ((qq s l w).1.filter (qn wk))) (jB (vu s l w ((qq s l w).1.filter (qn wk)))) (xO ((qq s l w).1.filter (qn wk))) (kc s l w wk):=by unfold Zp;rw[if_pos u]
 rw[z];simp only[go_sem,Bool.not_true,k.w.one,k.e.one,k.c.one,k.g.one,k.r.one,k.t.one];refine zl (r18goals _ s a (k.app _) f x l w wk (H.app _) L) ?_;rintro _ q ⟨rfl,rfl⟩;obtain⟨G,F⟩:∃G,G=vu s l w ((qq s l w).1.filter (qn wk)):=⟨_,rfl⟩;obtain⟨n,P⟩:∃n,n=xO ((qq s l w).1.filter (qn wk)):=⟨_,rfl⟩;obtain⟨E,T⟩:∃E,E=xy s l w ((qq s l w).1.filter (qn wk)):=⟨_,rfl⟩;rw[<-F] at K d⊢;rw[<-P] at b⊢;rw[<-T];refine zz ?_;refine ways (λe=>?_) (λe=>?_)
 ·have g:E≠0:=by simpa using e
  have Q:wL s.fault E (jB G) n (kc s l w wk)=⟨(0,0),n,(0,0),E⟩:=by unfold wL;rw[if_pos g]
  rw[Q];refine zz ?_;exact qt
 have M:¬ E≠0:=by simpa using e
 obtain⟨m,i⟩:∃m,m=kc s l w wk:=⟨_,rfl⟩;rw[<-i] at O;refine zz ?_;refine zZ [.res] 1 (oF [1,3,4,5,0,2] ((6,0,[0])::oF [7,8,9,10,11,12,13] ([]))) ?_;simp only[go_sem,k.w.one,k.e.one,k.c.one,k.g.one,k.r.one,k.t.one];refine zl (r18faults _ s a (k.app _) x l w wk (H.app _) zb) ?_;rintro _ q ⟨rfl,rfl⟩;rw[<-i];simp only[go_sem,k.w.one,k.e.one,k.c.one,k.g.one,k.r.one,k.t.one];refine zl (r18earned _ s a (k.app _) (xIa u) _ G m zb K d ⟨zo,λ_=>zo⟩) ?_;rintro _ q ⟨rfl,rfl⟩;have J:=xJa s.fault (jB G) m
 have v:wL s.fault E (jB G) n m=if(jq s.fault (jB G) m).2≠0 then⟨(0,0),n,(0,0),(jq s.fault (jB G) m).2⟩ else
   if n=0 then⟨(jq s.fault (jB G) m).1,0,(0,1),0⟩ else
   if(make n 1).2≠0 then⟨(0,0),n,(0,0),(make n 1).2⟩ else
   if(wy (jq s.fault (jB G) m).1 (make n 1).1).2≠0 then⟨(0,0),n,(0,0),(wy (jq s.fault (jB G) m).1 (make n 1).1).2⟩ else
   ⟨(jq s.fault (jB G) m).1,n,(wy (jq s.fault (jB G) m).1 (make n 1).1).1,0⟩:=by unfold wL;rw[if_neg M]
 rw[v];clear v;obtain⟨A,N⟩:∃A,A=jq s.fault (jB G) m:=⟨_,rfl⟩;rw[<-N] at J⊢;refine zz ?_;refine ways (λe=>?_) (λe=>?_)
 ·rw[if_pos (show A.2≠0 by simpa using e)];refine zz ?_;exact qt
 rw[if_neg (show ¬ A.2≠0 by simpa using e)];refine zz ?_;refine ways (λe=>?_) (λe=>?_)
 ·rw[if_pos (show n=0 by simpa using e)];refine zz ?_;exact qt
 have y:¬ n=0:=by simpa using e
 have C:0<n/\n<=2147483647:=zb;have o:=j0a (n:=n) zb;rw[if_neg y,o,if_neg zh];have j:jj n 1=((n,1),0):=by rw[kG zb zb];exact o
 refine zz ?_;refine zl (Xq n 1 zb zb _) ?_;rintro _ q ⟨rfl,rfl⟩;rw[j];refine zz ?_;refine ways (λe=>absurd e ze) (λe=>?_);refine zz ?_;refine qx (wVa A.1 (n,1) J ⟨qg,by simp[Fit]⟩ _) ?_;rw[qza C];obtain⟨D,v⟩:∃D,D=wy A.1 (n,1):=⟨_,rfl⟩;rw[<-v];refine zz ?_;refine ways (λe=>?_) (λe=>?_)
 ·rw[if_pos (show D.2≠0 by simpa using e)];refine zz ?_;exact qt
 rw[if_neg (show ¬ D.2≠0 by simpa using e)];refine zz ?_;exact qt
set_option maxHeartbeats 2000000 in
def r18Tier(h:List Ob)(s:Setup)(a:SA)(n:SIn h s a)(f:SFit s)(p:zL)(P:qp p):
    ACalls Tryz.prog 10 [qE s a,rat p] h λr h'=>r=i64 (Zx s p)/\h'=h:=by
 rw[<-YK];refine enterQX Tryz.f10 λB=>?_;simp only[go_sem,n.w.one,n.e.one,n.c.one,n.g.one,n.r.one,n.t.one];refine zl (Zn _ s a (n.app _) f) ?_;rintro _ R ⟨rfl,rfl⟩;refine zz ?_;refine qx (wc p P _) ?_;rw[kE];have E:∀M,zI (h++M) a.t=some (s.tiers.map qy):=λM=>(n.app M).t.rows;have S:=f.nt;obtain⟨M,C⟩:∃M,M=[Ob.box 30 (zN s a),.box 24 [i64 p.1,i64 p.2]]:=⟨_,rfl⟩;have l:(h++M)[h.length]? =some (.box 30 (zN s a)):=by rw[C];exact qr rfl
 have I:(h++M)[h.length+1]? =some (.box 24 [i64 p.1,i64 p.2]):=by rw[C];exact qa (k:=1) rfl
 refine zz ?_;rw[<-C]
 refine wp_loop_a ze (λm T h'=>∃(k:Nat) (out:Int),h'=h++M/\k<=s.tiers.length/\((zX s && rok p)=false->out= -1)/\((zX s && rok p)=true->kW p out k (s.tiers.drop k)=kW p (-1) 0 s.tiers)/\T 2= .ptr h.length 0/\T 3= .ptr (h.length+1) 0/\T 5=bl (zX s)/\T 6=bl (rok p)/\T 7=i64 out/\T 8=i64 k/\m=s.tiers.length - k) s.tiers.length
  ⟨0, -1,rfl,zb,λ_=>rfl,λ_=>rfl,zo,zo,zo,zo,by(simp only[go_sem]<;>rfl),by(simp only[go_sem]<;>rfl),rfl⟩ ?_
 rintro m T h' ⟨k,out,rfl,Q,O,L,t2,t3,t5,t6,G,v,rfl⟩
 have j:(zX s && rok p)=false∨k=s.tiers.length->out=Jq s p:=λA=>by
  unfold Jq;cases H:zX s && rok p with
  | false=>rw[if_neg ze];exact O H
  | true=>
    rcases A with A|u
    ·rw[A] at H;cases H
    rw[if_pos rfl, <-L H,u,List.drop_length];rfl
 cases d:decide ((k:Int)<s.tiers.length) with
 | false=>
   have u:k=s.tiers.length:=(by have:=of_decide_eq_false d;omega);rw[<-j (.inr u)];simp only[go_sem,v,t2,l,E,d,zc,qv];rw[C];exact zm (by simp only[go_sem,G]<;>try rfl)
 | true=>
   have x:=dlt d;cases z:zX s with
   | false=>
     rw[<-j (.inl (by rw[z];rfl))];rw[z] at t5;simp only[go_sem,v,t2,t5,l,E,d,zc,qv];rw[C];exact zm (by simp only[go_sem,G]<;>try rfl)
   | true=>
     cases D:rok p with
     | false=>
       rw[<-j (.inl (by rw[z,D];rfl))];rw[z] at t5;rw[D] at t6;simp only[go_sem,v,t2,t5,t6,l,E,d,zc,qv];rw[C];exact zm (by simp only[go_sem,G]<;>try rfl)
     | true=>
       have o:=qO qy x;have K:=(n.app M).t.at (i:=k) (by simpa using x);have J:(k:Int)<s.tiers.length:=zb
       have b:kW p out k (s.tiers.drop k)=kW p (if wr (s.tiers[k].1*p.2)<=wr (100*p.1) then(k:Int) else out) ((k+1:Nat):Int) (s.tiers.drop (k+1)):=by
        rw[zP x,kW];rfl
       obtain⟨y,N⟩:∃y,y=s.tiers[k]:=⟨_,rfl⟩;rw[<-N] at o b;rw[z] at t5;rw[D] at t6;have F:=qh (k:=k) zb rfl;have fin:k+1<=s.tiers.length:=zb;simp only[go_sem,v,t2,t5,t6,l,E,d,zc,qv];refine zZ [] 0 (oF [0,2,6,9,1,3,4,5,7,8,10,11,12] ([])) ?_;simp only[go_sem,v,t2,t3,l,I,E,o,J,K,qy,zc,Int.toNat_natCast,zd];refine ways (λe=>?_) (λe=>?_)
       ·have g:=of_decide_eq_true e;rw[if_pos g] at b;simp only[go_sem,v];exact⟨s.tiers.length - (k+1),zb,k+1,k,fin,λq=>q.elim,λ_=>b.symm.trans (L (by rw[z,D];rfl)),t2,t3,t5,t6,rfl,F,rfl⟩
       ·have g:=of_decide_eq_false e;rw[if_neg g] at b;simp only[go_sem,v];exact⟨s.tiers.length - (k+1),zb,k+1,out,fin,λq=>q.elim,λ_=>b.symm.trans (L (by rw[z,D];rfl)),t2,t3,t5,t6,G,F,rfl⟩
