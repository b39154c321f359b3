import Derived.Test.YtigdlmpjijhpaaaGreatKA
import Derived.Test.YtigdlmpjijhpaaaGreatK43
import Derived.Test.YtigdlmpjijhpaaaGreatK38
import Derived.Test.YtigdlmpjijhpaaaGreatK40
import Derived.Test.YtigdlmpjijhpaaaGreatK20
import Derived.Test.YtigdlmpjijhpaaaGreatK23
import Derived.Test.YtigdlmpjijhpaaaGreatK37
import Derived.Test.YtigdlmpjijhpaaaGreatK42
set_option linter.all false
namespace Go.Proofs.YtigdlmpjijhpaaaGreat.Ax
open Go Go.Proofs
set_option maxRecDepth 100000
theorem vda(l:List Int):((l.map qz).all λr=>r.length==1 && r.all AV.one)=true:=by
 rw[qa];intro r a;obtain⟨s,_,rfl⟩:=zt.1 a;rfl
theorem y3a{h:List Ob}{d:Nat}{a o:Ob}{l:List Int}{st:Nat}(b:d<h.length):((h++[a,.row 3 1 (l.map qz) st]).set d o)[h.length+1]? =some (.row 3 1 (l.map qz) st):=by
 rw[zc (by omega),zG (k:=1) rfl];rfl
theorem vea{h:List Ob}{d:Nat}{b o c a:Ob}(e:d<h.length):((h++[b,c]).set d o).set (h.length+1) a=h.set d o++[b,a]:=by
 rw[qt _ _ e,zT _ _ (by rw[zJ];omega),zJ,Nat.add_sub_cancel_left];rfl
theorem vfa{h:List Ob}{a:Ob}{l:List Int}{st:Nat}:New h 1 (.tl (h.length+1) st) (l.map qz) [a,.row 3 1 (l.map qz) st]:=OwnS.new (h0:=h) (ty:=3) (.inr ⟨h.length+1,st,by omega,rfl,by rw[zG (k:=1) rfl];rfl⟩) (zp _)
section
variable {h:List Ob} {d:Nat} {s:Setup} {a:SA} {x c:AV} {rows segs bytes:AV} {q:Cm}
def yH(b:Bk)(q:Cm):Bool:=kr q && !jt b.shut q.week
theorem zSb(f:h[d]? =some (.box 154 (qN s a x c 0 rows segs bytes q)))(b:Bk)(E:SlOf h c 1 (b.shut.map qz))(A:b.shut.length<1048576)(J:b.shut.Pairwise (· < ·)):
  ACalls Tryz.prog 81 [.ptr d 0] h λr h'=>r= .tup []/\∃L y,h'=h.set d (.box 154 (qN s a x y (if yH b q then 0 else 212) rows segs bytes q))++L/\NoRes L/\
   (yH b q=false->y=c/\L=[])/\(yH b q=true->New h 1 y ((Xk q.week b.shut).map qz) L):=by
 have hex:∃r h',(r=AV.tup []/\∃L y,h'=h.set d (.box 154 (qN s a x y (if yH b q then 0 else 212) rows segs bytes q))++L/\NoRes L/\
   (yH b q=false->y=c/\L=[])/\(yH b q=true->New h 1 y ((Xk q.week b.shut).map qz) L))/\ResK h h':=by
  cases Q:yH b q
  ·exact⟨_,_,⟨rfl,[],c,rfl,jm,λ_=>⟨rfl,rfl⟩,λq=>by cases q⟩,by rw[zM];exact qj f rfl⟩
  ·exact⟨_,_,⟨rfl,[],.sl 1 _,rfl,jm,λq=>(by cases q),λ_ _ _=>⟨rfl,λ_=>rfl⟩⟩,by rw[zM];exact qj f rfl⟩
 refine zj Tryz.f81 [] 39 rfl rfl rfl rfl rfl rfl (by decide) (hex) λB=>?_
 simp only[go_sem,f]
 refine zh (Kga f) ?_
 rintro _ P ⟨rfl,H⟩
 rw[H]
 cases C:kr q
 ·have n:yH b q=false:=by unfold yH;rw[C];rfl
  simp only[go_sem]
  refine zh (Xh f false 212) ?_
  rintro _ K ⟨rfl,rfl⟩
  rw[show jJ 0 false 212=212 from rfl]
  simp only[go_sem]
  exact⟨_,rfl,.inl ⟨rfl,[],c,by rw[n,zM];rfl,jm,λ_=>⟨rfl,rfl⟩,λq=>by rw[n] at q;cases q⟩⟩
 ·simp only[go_sem,f]
  refine zh (W9 f b.shut E A q.week) ?_
  rintro _ K ⟨rfl,N⟩
  rw[N,show b.shut.any (q.week== ·)=jt b.shut q.week from rfl]
  have k:yH b q= !jt b.shut q.week:=by unfold yH;rw[C];rfl
  simp only[go_sem]
  refine zh (Xh f (!jt b.shut q.week) 212) ?_
  rintro _ R ⟨rfl,rfl⟩
  rw[k]
  cases D:jt b.shut q.week
  ·rw[show jJ 0 (!false) 212=0 from rfl,qS f]
   simp only[go_sem]
   refine zQ rfl [.res] 1 [(0,0,[]),(1,0,[]),(2,0,[]),(3,0,[]),(4,0,[]),(7,0,[]),(8,0,[]),(9,0,[]),(10,0,[]),(5,0,[]),(11,0,[]),(6,0,[11]),(12,0,[]),(13,0,[]),(14,0,[]),(15,0,[]),(16,0,[]),(17,0,[])] rfl (by decide) (by decide) ?_
   have g:∀M,(h++M)[d]? =some (.box 154 (qN s a x c 0 rows segs bytes q)):=λM=>ze f
   have i:=(zd.1 f).1
   have t:q.week∉b.shut:=λF=>by rw[QN.2 F] at D;cases D
   have e:=w0a t J
   simp only[go_sem,g]
   refine zh (V5 _ c (b.shut.map qz) (E.app _) (by rw[zb];omega) (vda _)) ?_
   rintro _ O (⟨u,z,rfl⟩|⟨z,rfl⟩)
   ·have I:b.shut=[]:=by simpa using u
    rw[z]
    rw[I] at e⊢
    have j:∀M o,((h++M).set d o)[d]? =some o:=λM o=>zm (g M)
    simp only[go_sem,g,j]
    refine zh (Kya _ (h.length+1) 0 [q.week] (y3a (l:=[q.week]) i) (by simp) (by simp)) ?_
    rintro _ G ⟨rfl,w⟩
    rw[w,vea i,show([q.week].mergeSort λx y=>decide (x<=y))=Xk q.week [] from e]
    simp only[go_sem]
    exact⟨_,rfl,.inl ⟨rfl,_,.tl (h.length+1) 0,rfl,zl rfl (zD rfl),λq=>(by cases q),λ_=>vfa⟩⟩
   ·rw[z]
    have m:((b.shut.map qz).length+1)*9<=140737488355328:=by rw[zb];omega
    have p:b.shut.map qz++[[AV.v (Value.int IntKind.i64 q.week)]]=(b.shut++[q.week]).map qz:=by rw[zw];rfl
    have j:∀M o,((h++M).set d o)[d]? =some o:=λM o=>zm (g M)
    simp only[go_sem,g,m,p,j]
    refine zh (Kya _ (h.length+1) 2 (b.shut++[q.week]) (y3a (l:=b.shut++[q.week]) i) (by simp;omega) (by simp)) ?_
    rintro _ G ⟨rfl,w⟩
    rw[w,vea i,e]
    simp only[go_sem]
    exact⟨_,rfl,.inl ⟨rfl,_,.tl (h.length+1) 2,rfl,zl rfl (zD rfl),λq=>(by cases q),λ_=>vfa⟩⟩
  ·rw[show jJ 0 (!true) 212=212 from rfl]
   simp only[go_sem]
   exact⟨_,rfl,.inl ⟨rfl,[],c,by rw[zM],jm,λ_=>⟨rfl,rfl⟩,λq=>by cases q⟩⟩
end
theorem QUa{h h':List Ob}{id st e:Nat}{y:AV}{xs:List (List AV)}(b:y= .tl id st∨∃n,y= .vw (.tl id st) 1 0 n)(a:h[id]? =h'[id]?)(k:SlOf h y e xs):SlOf h' y e xs:=by
 obtain⟨k1,k2⟩:=k
 rcases b with rfl|⟨n,rfl⟩
 ·refine⟨?_,λq=>?_⟩
  ·rw[q8] at k1 ⊢;rw[<-a];exact k1
  ·have:=k2 q
   rw[jO] at this ⊢;rw[<-a];exact this
 ·refine⟨?_,λq=>?_⟩
  ·rw[vC,q8,jO] at k1 ⊢;rw[<-a];exact k1
  ·have:=k2 q
   rw[Q1,jO] at this ⊢;rw[<-a];exact this
theorem vga{h:List Ob}{b a:Ob}{y:AV}{st:Nat}{xs:List (List AV)}(c:y= .tl (h.length+1) st∨∃n,y= .vw (.tl (h.length+1) st) 1 0 n)(k:SlOf ((h++[b])++[a]) y 1 xs):New h 1 y xs [b,a]:=λd e=>by
 refine QUa c ?_ k
 rw[zr,show [b]++[a]=[b,a] from rfl,zG (k:=1) rfl, <-e,zG (k:=1) rfl]
section
variable {h:List Ob} {d:Nat} {s:Setup} {a:SA} {x c:AV} {rows segs bytes:AV} {q:Cm}
theorem zTb(z:h[d]? =some (.box 154 (qN s a x c 0 rows segs bytes q)))(b:Bk)(D:SlOf h c 1 (b.shut.map qz))(p:b.shut.length<1048576):
  ACalls Tryz.prog 82 [.ptr d 0] h λr h'=>r= .tup []/\∃L y,h'=h.set d (.box 154 (qN s a x y (if jt b.shut q.week then 0 else 212) rows segs bytes q))++L/\NoRes L/\
   (jt b.shut q.week=false->y=c)/\(jt b.shut q.week=true->New h 1 y ((b.shut.filter λw=> !(w==q.week)).map qz) L):=by
 have hex:∃r h',(r=AV.tup []/\∃L y,h'=h.set d (.box 154 (qN s a x y (if jt b.shut q.week then 0 else 212) rows segs bytes q))++L/\NoRes L/\
   (jt b.shut q.week=false->y=c)/\(jt b.shut q.week=true->New h 1 y ((b.shut.filter λw=> !(w==q.week)).map qz) L))/\ResK h h':=by
  cases Q:jt b.shut q.week
  ·exact⟨_,_,⟨rfl,[],c,rfl,jm,λ_=>rfl,λq=>by cases q⟩,by rw[zM];exact qj z rfl⟩
  ·exact⟨_,_,⟨rfl,[],.sl 1 _,rfl,jm,λq=>(by cases q),λ_ _ _=>⟨rfl,λ_=>rfl⟩⟩,by rw[zM];exact qj z rfl⟩
 have m:=(zd.1 z).1
 have u:∀M,(h++M)[d]? =some (.box 154 (qN s a x c 0 rows segs bytes q)):=λM=>ze z
 refine zj Tryz.f82 [] 23 rfl rfl rfl rfl rfl rfl (by decide) (hex) λB=>?_
 simp only[go_sem,u]
 obtain⟨H,i⟩:∃H,H=h++[Ob.box 151 [.ptr d 0]]:=⟨_,rfl⟩
 have t:H.length=h.length+1:=by rw[i];simp
 have g:H[d]? =some (.box 154 (qN s a x c 0 rows segs bytes q)):=by rw[i];exact u _
 have l:H[h.length]? =some (.box 151 [.ptr d 0]):=by rw[i,zK rfl];rfl
 rw[<-i]
 have j:∀M,(H++M)[h.length]? =some (.box 151 [.ptr d 0]):=λM=>ze l
 have f:∀M,(H++M)[d]? =some (.box 154 (qN s a x c 0 rows segs bytes q)):=λM=>ze g
 refine zQ rfl [] 0 [(0,0,[]),(1,0,[]),(2,0,[]),(3,0,[]),(4,0,[]),(5,0,[]),(6,0,[]),(7,0,[0]),(8,0,[])] rfl (by decide) (by decide) ?_
 simp only[go_sem,g,l,j,f]
 refine zh (W9 g b.shut (by rw[i];exact D.app _) p q.week) ?_
 rintro _ P ⟨rfl,K⟩
 rw[K,show b.shut.any (q.week== ·)=jt b.shut q.week from rfl]
 simp only[go_sem,l]
 refine zh (Xh g (jt b.shut q.week) 212) ?_
 rintro _ R ⟨rfl,rfl⟩
 cases C:jt b.shut q.week
 ·rw[show jJ 0 false 212=212 from rfl]
  simp only[go_sem]
  refine⟨_,rfl,.inl ⟨rfl,[.box 151 [.ptr d 0]],c,?_,zD rfl,λ_=>rfl,λq=>by cases q⟩⟩
  rw[i,qt _ _ m]
 ·rw[show jJ 0 true 212=0 from rfl,qS g]
  simp only[go_sem]
  refine zQ rfl [] 0 [(7,0,[]),(0,0,[]),(1,0,[]),(2,0,[]),(3,0,[]),(4,0,[]),(5,0,[]),(6,0,[0]),(8,0,[0]),(9,0,[]),(10,0,[]),(11,0,[]),(12,0,[])] rfl (by decide) (by decide) ?_
  simp only[go_sem,g,l,j,f]
  refine zh (V5 _ c (b.shut.map qz) (by rw[i];exact D.app _) (by rw[zb];omega) (vda _)) ?_
  rintro _ O (⟨v,A,rfl⟩|⟨A,rfl⟩)
  ·exfalso
   have G:b.shut=[]:=by simpa using v
   rw[G] at C
   cases C
  ·rw[A]
   simp only[go_sem,f,j]
   refine zh (WCa _ H.length 1 b.shut 168 [.ptr h.length 0] (λn=>n==q.week) (by rw[zK rfl];rfl) p (λe N o L=>zEb (by rw[zT _ _ (zp _),zr];exact f _) h.length (by rw[zT _ _ (zp _),zr];exact j _) e)) ?_
   rintro r F ⟨l2,E,I,k⟩
   have J:F=H++[xda l2 1]:=by rw[E,zT _ _ (zp _),Nat.sub_self];rfl
   rw[J] at k⊢
   rcases I with rfl|⟨n,rfl⟩
   ·simp only[go_sem,f,j]
    refine⟨_,rfl,.inl ⟨rfl,[.box 151 [.ptr d 0],xda l2 1],(.tl H.length 1),?_,zl rfl (zD rfl),λq=>q.elim,λ_=>vga (st:=1) (.inl (by rw[t])) (by rw[i] at k;rw[i];exact k)⟩⟩
    rw[i,zr,qt _ _ m];rfl
   ·simp only[go_sem,f,j]
    refine⟨_,rfl,.inl ⟨rfl,[.box 151 [.ptr d 0],xda l2 1],(.vw (.tl H.length 1) 1 0 n),?_,zl rfl (zD rfl),λq=>q.elim,λ_=>vga (st:=1) (.inr ⟨n,by rw[t]⟩) (by rw[i] at k;rw[i];exact k)⟩⟩
    rw[i,zr,qt _ _ m];rfl
end
open Go.RowKit
abbrev nl:AV:= .v (.slice none 0 0)
abbrev BX(b:Bk):AV:= .sl 11 (b.evs.map evC)
abbrev BC(b:Bk):AV:= .sl 1 (b.shut.map qz)
def SlN(y:AV)(e:Nat)(rows:List (List AV)):Prop:=y= .sl e rows∨(y=nl/\rows=[])
theorem WEa{n:Nat}{s:Setup}{a:SA}{x c rows segs bytes:AV}{err:Int}{q:Cm}:qy n (qN s a x c err rows segs bytes q)=(a.w.lt n && (a.e.lt n && (a.c.lt n && (a.g.lt n && (a.r.lt n && (a.t.lt n && (x.lt n && (c.lt n && (rows.lt n && (segs.lt n && (bytes.lt n && true))))))))))):=rfl
structure AL (n:Nat) (a:SA):Prop where
 w:a.w.lt n=true
 e:a.e.lt n=true
 c:a.c.lt n=true
 g:a.g.lt n=true
 r:a.r.lt n=true
 t:a.t.lt n=true
theorem Qf{n:Nat}{s:Setup}{a:SA}{x c rows segs bytes:AV}{err:Int}{q:Cm}:qy n (qN s a x c err rows segs bytes q)=true↔AL n a/\x.lt n=true/\c.lt n=true/\rows.lt n=true/\segs.lt n=true/\bytes.lt n=true:=by
 rw[WEa]
 simp only[zq,and_true]
 exact⟨λ⟨g,b,e,d,f,i,h⟩=>⟨⟨g,b,e,d,f,i⟩,h⟩,λ⟨⟨g,b,e,d,f,i⟩,h⟩=>⟨g,b,e,d,f,i,h⟩⟩
theorem Ywa{n:Nat}(b:Bk):(BX b).lt n=true:=wj b.evs
theorem Xm{n:Nat}{cs a b:List AV}{z:AV}(e:cs=a++z::b)(h:qy n cs=true):qy n a=true/\qy n b=true:=by
 rw[e,Kz,zq,qy,zq] at h
 exact⟨h.1,h.2.2⟩
section
variable {h:List Ob} {d:Nat} {s:Setup} {a:SA} {q:Cm} {b:Bk}
def qka(f:FuncId)(h:List Ob)(d:Nat)(s:Setup)(a:SA)(b:Bk)(q:Cm):Prop:=
 ACalls Tryz.prog f [.ptr d 0] h λr h'=>r= .tup []/\∃(e c g:AV) (i:Cm),h'=h.set d (.box 154 (qN s a (BX (doP s b q).1) (BC (doP s b q).1) (doP s b q).2.err e c g i))/\
  SlN e 27 ((doP s b q).2.rows.map je)/\SlN c 5 ((doP s b q).2.segs.map ve)/\SlN g 1 ((doP s b q).2.bytes.map xA)
theorem xea(f:Fx):Kta s b f (BX b)=BX (XS s b f).1:=by
 unfold Kta XS
 split<;>rfl
theorem Kza(f:Fx):BC (XS s b f).1=BC b:=by
 unfold XS
 split<;>rfl
theorem x2b(e:h[d]? =some (.box 154 (qN s a (BX b) (BC b) 0 nl nl nl q)))(k:SIn h s a)(i:BkI s b)(f:b.shut.length<=53)(g:q.kind=2):qka 78 h d s a b q:=by
 have j:doP s b q=XS s b q.fx:=by unfold doP;rw[if_neg (by omega),if_pos g]
 have:=i.few
 have c0:=Ze e (λn c=>by
  rw[Qf] at c⊢
  rw[xea]
  exact⟨c.1,Ywa _,c.2.2⟩) (jPb e k b ⟨rfl,λ_=>rfl⟩ (by omega) ⟨rfl,λ_=>rfl⟩ (by omega) rfl)
 refine c0.mono ?_
 rintro r h' ⟨rfl,rfl⟩
 rw[j,xea, <-Kza (s:=s) (b:=b) q.fx]
 exact⟨rfl,nl,nl,nl,q,rfl,.inr ⟨rfl,rfl⟩,.inr ⟨rfl,rfl⟩,.inr ⟨rfl,rfl⟩⟩
theorem WFa(e:h[d]? =some (.box 154 (qN s a (BX b) (BC b) 0 nl nl nl q)))(k:SIn h s a)(i:BkI s b)(f:b.shut.length<=53)(g:q.kind=1):qka 77 h d s a b q:=by
 have j:doP s b q=XS s b ⟨1,q.fx.ev⟩:=by unfold doP;rw[if_pos g]
 have:=i.few
 have c0:=Ze e (λn c=>by
  rw[Qf] at c⊢
  rw[xea]
  exact⟨c.1,Ywa _,c.2.2⟩) (WBa e k b ⟨rfl,λ_=>rfl⟩ (by omega) ⟨rfl,λ_=>rfl⟩ (by omega) rfl)
 refine c0.mono ?_
 rintro r h' ⟨rfl,rfl⟩
 rw[j,xea, <-Kza (s:=s) (b:=b) ⟨1,q.fx.ev⟩]
 exact⟨rfl,nl,nl,nl,WAa q,rfl,.inr ⟨rfl,rfl⟩,.inr ⟨rfl,rfl⟩,.inr ⟨rfl,rfl⟩⟩
theorem jRb(e:h[d]? =some (.box 154 (qN s a (BX b) (BC b) 0 nl nl nl q)))(k:SIn h s a)(f:SFit s)(i:BkI s b)(g:q.kind=4):qka 80 h d s a b q:=by
 have c:doP s b q=(b,if jc s q then⟨0,[],(qA s b.evs q.worker).1,[]⟩ else wt 80):=by unfold doP;rw[if_neg (by omega),if_neg (by omega),if_neg (by omega),if_pos g]
 have:=i.few
 refine(jDb e k f b.evs ⟨rfl,λ_=>rfl⟩ (by omega)).mono ?_
 rintro r h' ⟨rfl,rfl⟩
 rw[c]
 cases j:jc s q
 ·exact⟨rfl,nl,nl,nl,q,rfl,.inr ⟨rfl,rfl⟩,.inr ⟨rfl,rfl⟩,.inr ⟨rfl,rfl⟩⟩
 ·exact⟨rfl,nl,_,nl,q,rfl,.inr ⟨rfl,rfl⟩,.inl rfl,.inr ⟨rfl,rfl⟩⟩
theorem x3b(e:h[d]? =some (.box 154 (qN s a (BX b) (BC b) 0 nl nl nl q)))(k:SIn h s a)(f:SFit s)(i:BkI s b)(m:q.kind=3):qka 79 h d s a b q:=by
 have c:doP s b q=(b,if yY s 0 q==0 then⟨0,[qi s b.evs q.worker q.week],[],[]⟩ else wt (yY s 0 q)):=by unfold doP;rw[if_neg (by omega),if_neg (by omega),if_pos m]
 have:=i.few
 have c0:=jEb e k f b.evs ⟨rfl,λ_=>rfl⟩ (by omega)
 obtain⟨E,o⟩:∃E,E=yY s 0 q:=⟨_,rfl⟩
 rw[<-o] at c0 c
 by_cases h0:E=0
 ·subst h0
  have p:ACalls Tryz.prog 79 [.ptr d 0] h λr h'=>r= .tup []/\∃L y,h'=h.set d (.box 154 ((qN s a (BX b) (BC b) 0 nl nl nl q).take 26++y::(qN s a (BX b) (BC b) 0 nl nl nl q).drop 27))++L/\NoRes L/\New h 27 y [je (qi s b.evs q.worker q.week)] L:=c0.mono λr h' q=>by
   obtain⟨rfl,l,L,rfl,g,⟨q,_⟩|⟨_,rfl,rfl⟩⟩:=q
   ·exact absurd rfl q
   ·exact⟨rfl,_,_,rfl,g,OwnS.new (h0:=h) (ty:=45) (.inr ⟨h.length,0,zp _,rfl,by rw[zK rfl];rfl⟩) (zp _)⟩
  refine(vZ (by decide) e (λn j=>Xm (z:=nl) rfl j) (λn=>?_) p).mono ?_
  ·exact Zp [qi s b.evs q.worker q.week]
  ·rintro r h' ⟨rfl,rfl⟩
   rw[c]
   exact⟨rfl,_,nl,nl,q,rfl,.inl rfl,.inr ⟨rfl,rfl⟩,.inr ⟨rfl,rfl⟩⟩
 ·refine c0.mono ?_
  rintro r h' ⟨rfl,l,L,rfl,g,⟨_,rfl,rfl⟩|⟨q,_⟩⟩
  ·rw[c,if_neg (by simpa using h0),zM]
   exact⟨rfl,nl,nl,nl,q,rfl,.inr ⟨rfl,rfl⟩,.inr ⟨rfl,rfl⟩,.inr ⟨rfl,rfl⟩⟩
  ·exact absurd q h0
theorem jSb(f:h[d]? =some (.box 154 (qN s a (BX b) (BC b) 0 nl nl nl q)))(i:BkI s b)(j:b.shut.length<=53)(l:q.kind=5):qka 81 h d s a b q:=by
 have e:doP s b q=(if yH b q then(⟨b.evs,Xk q.week b.shut⟩,wt 0) else(b,wt 212)):=by unfold doP;rw[if_neg (by omega),if_neg (by omega),if_neg (by omega),if_neg (by omega),if_pos l];rfl
 have c0:=zSb f b ⟨rfl,λ_=>rfl⟩ (by omega) i.rise
 cases c:yH b q
 ·rw[c] at c0 e
  refine c0.mono ?_
  rintro r h' ⟨rfl,L,y,rfl,g,o,_⟩
  obtain⟨rfl,rfl⟩:=o rfl
  rw[e,zM]
  exact⟨rfl,nl,nl,nl,q,rfl,.inr ⟨rfl,rfl⟩,.inr ⟨rfl,rfl⟩,.inr ⟨rfl,rfl⟩⟩
 ·rw[c] at c0 e
  have m:ACalls Tryz.prog 81 [.ptr d 0] h λr h'=>r= .tup []/\∃L y,h'=h.set d (.box 154 ((qN s a (BX b) (BC b) 0 nl nl nl q).take 24++y::(qN s a (BX b) (BC b) 0 nl nl nl q).drop 25))++L/\NoRes L/\New h 1 y ((Xk q.week b.shut).map qz) L:=c0.mono λr h' q=>by
   obtain⟨rfl,L,y,rfl,g,_,p⟩:=q
   exact⟨rfl,L,y,rfl,g,p rfl⟩
  refine(vZ (by decide) f (λn k=>Xm (z:=BC b) rfl k) (λn=>yD _) m).mono ?_
  rintro r h' ⟨rfl,rfl⟩
  rw[e]
  exact⟨rfl,nl,nl,nl,q,rfl,.inr ⟨rfl,rfl⟩,.inr ⟨rfl,rfl⟩,.inr ⟨rfl,rfl⟩⟩
theorem jTb(g:h[d]? =some (.box 154 (qN s a (BX b) (BC b) 0 nl nl nl q)))(k:b.shut.length<=53)(l:q.kind=6):qka 82 h d s a b q:=by
 have f:doP s b q=(if jt b.shut q.week then(⟨b.evs,b.shut.filter λw=> !(w==q.week)⟩,wt 0) else(b,wt 212)):=by unfold doP;rw[if_neg (by omega),if_neg (by omega),if_neg (by omega),if_neg (by omega),if_neg (by omega),if_pos l]
 have c0:=zTb g b ⟨rfl,λ_=>rfl⟩ (by omega)
 cases c:jt b.shut q.week
 ·rw[c] at c0 f
  have i:=Ze g (cs:=qN s a (BX b) (BC b) 212 nl nl nl q) (λn e=>by rw[Qf] at e ⊢;exact e) (c0.mono λr h' q=>by
   obtain⟨rfl,L,y,rfl,j,m,_⟩:=q
   have:=m rfl
   subst this
   exact⟨rfl,L,rfl,j⟩)
  refine i.mono ?_
  rintro r h' ⟨rfl,rfl⟩
  rw[f]
  exact⟨rfl,nl,nl,nl,q,rfl,.inr ⟨rfl,rfl⟩,.inr ⟨rfl,rfl⟩,.inr ⟨rfl,rfl⟩⟩
 ·rw[c] at c0 f
  have i:ACalls Tryz.prog 82 [.ptr d 0] h λr h'=>r= .tup []/\∃L y,h'=h.set d (.box 154 ((qN s a (BX b) (BC b) 0 nl nl nl q).take 24++y::(qN s a (BX b) (BC b) 0 nl nl nl q).drop 25))++L/\NoRes L/\New h 1 y ((b.shut.filter λw=> !(w==q.week)).map qz) L:=c0.mono λr h' q=>by
   obtain⟨rfl,L,y,rfl,j,_,o⟩:=q
   exact⟨rfl,L,y,rfl,j,o rfl⟩
  refine(vZ (by decide) g (λn e=>Xm (z:=BC b) rfl e) (λn=>yD _) i).mono ?_
  rintro r h' ⟨rfl,rfl⟩
  rw[f]
  exact⟨rfl,nl,nl,nl,q,rfl,.inr ⟨rfl,rfl⟩,.inr ⟨rfl,rfl⟩,.inr ⟨rfl,rfl⟩⟩
theorem WGa(j:h[d]? =some (.box 154 (qN s a (BX b) (BC b) 0 nl nl nl q)))(k:SIn h s a)(f:SFit s)(i:BkI s b)(t:b.shut.length<=53)(l:s.rates.length<4096)(u:q.kind=7):qka 83 h d s a b q:=by
 have g:doP s b q=(b,if jt b.shut q.week then⟨0,xf s b q.week,[],(jY (xf s b q.week)).1⟩ else wt 212):=by unfold doP;rw[if_neg (by omega),if_neg (by omega),if_neg (by omega),if_neg (by omega),if_neg (by omega),if_neg (by omega),if_pos u]
 have:=i.few
 have c0:=Kwa j k f b ⟨rfl,λ_=>rfl⟩ (by omega) ⟨rfl,λ_=>rfl⟩ (by omega) l
 cases e:jt b.shut q.week
 ·rw[e] at c0 g
  have m:ACalls Tryz.prog 83 [.ptr d 0] h λr h'=>r= .tup []/\∃L y,h'=h.set d (.box 154 ((qN s a (BX b) (BC b) 212 nl nl nl q).take 26++y::(qN s a (BX b) (BC b) 212 nl nl nl q).drop 27))++L/\NoRes L/\New h 27 y [] L:=c0.mono λr h' q=>by
   obtain⟨rfl,L,y,rfl,p,c⟩:=q
   exact⟨rfl,L,y,rfl,p,c⟩
  refine(vZ (by decide) j (λn c=>Xm (z:=nl) (cs:=qN s a (BX b) (BC b) 212 nl nl nl q) rfl c) (λn=>rfl) m).mono ?_
  rintro r h' ⟨rfl,rfl⟩
  rw[g]
  exact⟨rfl,_,nl,nl,q,rfl,.inl rfl,.inr ⟨rfl,rfl⟩,.inr ⟨rfl,rfl⟩⟩
 ·rw[e] at c0 g
  obtain⟨z,o⟩:∃z,z=AV.sl 1 ((jY (xf s b q.week)).1.map xA):=⟨_,rfl⟩
  have m:ACalls Tryz.prog 83 [.ptr d 0] h λr h'=>r= .tup []/\∃L y,h'=h.set d (.box 154 ((qN s a (BX b) (BC b) 0 nl nl z q).take 26++y::(qN s a (BX b) (BC b) 0 nl nl z q).drop 27))++L/\NoRes L/\New h 27 y ((xf s b q.week).map je) L:=c0.mono λr h' q=>by
   obtain⟨rfl,L,y,rfl,p,c⟩:=q
   exact⟨rfl,L,y,by rw[o];rfl,p,c⟩
  refine(vZ (by decide) j (λn c=>Xm (z:=nl) (cs:=qN s a (BX b) (BC b) 0 nl nl z q) rfl (by
   rw[Qf] at c⊢
   exact⟨c.1,c.2.1,c.2.2.1,c.2.2.2.1,c.2.2.2.2.1,by rw[o];exact Qc _⟩)) (λn=>Zp _) m).mono ?_
  rintro r h' ⟨rfl,rfl⟩
  rw[g]
  exact⟨rfl,_,nl,z,q,rfl,.inl rfl,.inr ⟨rfl,rfl⟩,.inl o⟩
theorem jUb(c:h[d]? =some (.box 154 (qN s a (BX b) (BC b) 0 nl nl nl q)))(f:q.kind=8):qka 84 h d s a b q:=by
 have e:doP s b q=(b,wt 0):=by unfold doP;rw[if_neg (by omega),if_neg (by omega),if_neg (by omega),if_neg (by omega),if_neg (by omega),if_neg (by omega),if_neg (by omega),if_pos f]
 unfold qka
 rw[e]
 refine zj Tryz.f84 [] 2 rfl rfl rfl rfl rfl rfl (by decide) (⟨_,_,⟨rfl,nl,nl,nl,q,rfl,.inr ⟨rfl,rfl⟩,.inr ⟨rfl,rfl⟩,.inr ⟨rfl,rfl⟩⟩,qj c rfl⟩) λB=>?_
 simp only[go_sem]
 exact⟨_,rfl,.inl ⟨rfl,nl,nl,nl,q,(qS c).symm,.inr ⟨rfl,rfl⟩,.inr ⟨rfl,rfl⟩,.inr ⟨rfl,rfl⟩⟩⟩
end
abbrev ZT(q:Cm):List AV:=[i64 q.kind,i64 q.fx.op,i64 q.fx.ev.id,i64 q.fx.ev.worker,i64 q.fx.ev.at_,i64 q.fx.ev.kind,i64 q.fx.ev.from_,i64 q.fx.ev.to_,i64 q.fx.ev.element,i64 q.fx.ev.units,i64 q.fx.ev.class_,i64 q.fx.ev.gear,i64 q.fx.ev.code,i64 q.worker,i64 q.week,i64 q.last]
abbrev BV(s:Setup)(b:Bk):AV:= .ag (Qe s (frA s) (BX b) (BC b))
abbrev wQ(w:An):List AV:=[i64 w.err,.sl 27 (w.rows.map je),.sl 5 (w.segs.map ve),.sl 1 (w.bytes.map xA)]
theorem zWa{s:Setup}{b:Bk}(i:BkI s b):b.shut.length<=53:=by
 have c:b.shut.Nodup:=i.rise.imp λ{a b} h q=>by omega
 have:=QT (b:=Jp 0 52) c λw d=>by rw[Kw];exact i.rng w d
 have e:(Jp 0 52).length=53:=by rw[Jp,zb,jz];rfl
 omega
theorem QVa{P:Program}{x:AV}{n:FuncId}{ar:List AV}{h:List Ob}{k:AV->List Ob->Prop}(e:x= .fn (.func n) [] [])(g: @qta P n ar h ⟨k⟩): @Yy P x ar h ⟨k⟩:=by
 subst e
 rw[xKa,List.nil_append,zM]
 exact g
theorem x4b(h:List Ob)(s:Setup)(f:SFit s)(b:Bk)(i:BkI s b)(q:Cm)(D:s.rates.length<4096):
  ACalls Tryz.prog 29 [BV s b,.ag (ZT q)] h λr h'=>(∃j m l:AV,r= .tup [BV s (doP s b q).1,.ag [i64 (doP s b q).2.err,j,m,l]]/\SlN j 27 ((doP s b q).2.rows.map je)/\SlN m 5 ((doP s b q).2.segs.map ve)/\SlN l 1 ((doP s b q).2.bytes.map xA))/\h'=h:=by
 have hex:∃r h',((∃j m l:AV,r=AV.tup [BV s (doP s b q).1,.ag [i64 (doP s b q).2.err,j,m,l]]/\SlN j 27 ((doP s b q).2.rows.map je)/\SlN m 5 ((doP s b q).2.segs.map ve)/\SlN l 1 ((doP s b q).2.bytes.map xA))/\h'=h)/\ResK h h':=⟨_,_,⟨⟨_,_,_,rfl,.inl rfl,.inl rfl,.inl rfl⟩,rfl⟩,.refl⟩
 have z:=(Jm (h:=h) s).ones
 refine zj Tryz.f29 [.cell 4 63,.cell 5 71] 38 rfl rfl rfl rfl rfl rfl (by decide) (hex) λB=>?_
 simp only[go_sem,z]
 refine ways (λe=>?_) (λe=>?_)
 ·have a:q.kind≠1/\q.kind≠2/\q.kind≠3/\q.kind≠4/\q.kind≠5/\q.kind≠6/\q.kind≠7/\q.kind≠8:=by
   simp only[Bool.not_eq_true',zY,beq_eq_false_iff_ne] at e
   omega
  have I:doP s b q=(b,wt 240):=by unfold doP;rw[if_neg (by omega),if_neg (by omega),if_neg (by omega),if_neg (by omega),if_neg (by omega),if_neg (by omega),if_neg (by omega),if_neg (by omega)]
  rw[I]
  simp only[go_sem,z]
  refine⟨.tup [BV s b,.ag [i64 240,nl,nl,nl]],by simp only[go_sem],.inr ⟨h,_,rfl,rfl,?_,.refl,⟨nl,nl,nl,rfl,.inr ⟨rfl,rfl⟩,.inr ⟨rfl,rfl⟩,.inr ⟨rfl,rfl⟩⟩,rfl⟩⟩
  simp only[frA,AV.lt,qy,Jn,Jo,ZQ,yD,wj,Bool.and_self]
 ·have a:q.kind=1∨q.kind=2∨q.kind=3∨q.kind=4∨q.kind=5∨q.kind=6∨q.kind=7∨q.kind=8:=by
   simp only[Bool.not_eq_false',Bool.or_eq_true,beq_iff_eq] at e
   omega
  have c:=zWa i
  have o:∃n,(if 1=q.kind then AV.fn (.func 77) [] [] else if 2=q.kind then AV.fn (.func 78) [] [] else if 3=q.kind then AV.fn (.func 79) [] [] else if 4=q.kind then AV.fn (.func 80) [] [] else if 5=q.kind then AV.fn (.func 81) [] [] else if 6=q.kind then AV.fn (.func 82) [] [] else if 7=q.kind then AV.fn (.func 83) [] [] else if 8=q.kind then AV.fn (.func 84) [] [] else AV.v Value.nilFunc)=AV.fn (.func n) [] []/\∀(H:List Ob) (d:Nat),H[d]? =some (.box 154 (qN s (frA s) (BX b) (BC b) 0 nl nl nl q))->qka n H d s (frA s) b q:=by
   rcases a with a|a|a|a|a|a|a|a
   ·exact⟨_,by rw[a];rfl,λH d g=>WFa g (Jm s) i c a⟩
   ·exact⟨_,by rw[a];rfl,λH d g=>x2b g (Jm s) i c a⟩
   ·exact⟨_,by rw[a];rfl,λH d g=>x3b g (Jm s) f i a⟩
   ·exact⟨_,by rw[a];rfl,λH d g=>jRb g (Jm s) f i a⟩
   ·exact⟨_,by rw[a];rfl,λH d g=>jSb g i c a⟩
   ·exact⟨_,by rw[a];rfl,λH d g=>jTb g c a⟩
   ·exact⟨_,by rw[a];rfl,λH d g=>WGa g (Jm s) f i c D a⟩
   ·exact⟨_,by rw[a];rfl,λH d g=>jUb g a⟩
  obtain⟨n,E,told⟩:=o
  simp only[go_sem]
  refine QVa E ?_
  refine zh (told _ _ (by rw[zG (k:=5) rfl];rfl)) ?_
  rintro _ L ⟨rfl,j,m,l,K,F,A,y,x⟩
  rw[F]
  have t:AV.one j=true:=by rcases A with rfl|⟨rfl,_⟩<;>rfl
  have u:AV.one m=true:=by rcases y with rfl|⟨rfl,_⟩<;>rfl
  have p:AV.one l=true:=by rcases x with rfl|⟨rfl,_⟩<;>rfl
  obtain⟨b',C⟩:∃b',b'=(doP s b q).1:=⟨_,rfl⟩
  obtain⟨w,G⟩:∃w,w=(doP s b q).2:=⟨_,rfl⟩
  rw[<-G] at A y x⊢
  rw[<-C]
  clear e E told
  have J:j.lt h.length=true:=by
   rcases A with rfl|⟨rfl,_⟩
   ·exact Zp _
   ·rfl
  have l2:m.lt h.length=true:=by
   rcases y with rfl|⟨rfl,_⟩
   ·exact zAa _
   ·rfl
  have l3:l.lt h.length=true:=by
   rcases x with rfl|⟨rfl,_⟩
   ·exact Qc _
   ·rfl
  refine zQ rfl [] 0 [(0,0,[]),(1,0,[]),(2,0,[]),(4,0,[]),(5,0,[]),(6,0,[]),(3,0,[]),(7,0,[]),(8,0,[7]),(9,0,[])] rfl (by decide) (by decide) ?_
  simp only[go_sem,z,t,u,p]
  refine⟨.tup [BV s b',.ag [i64 w.err,j,m,l]],by simp only[go_sem,z,t,u,p],.inr ⟨h,_,rfl,rfl,?_,.refl,⟨j,m,l,rfl,A,y,x⟩,rfl⟩⟩
  simp only[frA,AV.lt,qy,Jn,Jo,ZQ,yD,wj,J,l2,l3,Bool.and_self]
theorem SlN.weak{y:AV}{e:Nat}{rows:List (List AV)}(k:SlN y e rows):WeakV y (.sl e rows):=by
 rcases k with rfl|⟨rfl,rfl⟩
 ·exact .refl _
 ·exact .nil e
theorem WeakV.ag4{z a f b b' d g:AV}(q:WeakV a f)(l:WeakV b b')(o:WeakV d g):WeakV (.ag [z,a,b,d]) (.ag [z,f,b',g]):=λc v ⟨vs,e,u,h,j,a0,x,r,s,a1,y,k,m,a2,w,i,n,a3,p⟩=>⟨vs,e,u,h,j,a0,x,r,s,q c x a1,y,k,m,l c y a2,w,i,n,o c w a3,p⟩
theorem cDo(h:List Ob)(s:Setup)(f:SFit s)(b:Bk)(i:BkI s b)(q:Cm)(a:s.rates.length<4096):
  ACalls Tryz.prog 29 [BV s b,.ag (ZT q)] h λr h'=>r= .tup [BV s (doP s b q).1,.ag (wQ (doP s b q).2)]/\h'=h:=
 wN (x4b h s f b i q a) λr h' ⟨⟨g,e,j,d,k1,k2,k3⟩,c⟩=>by
  subst d
  exact⟨_,⟨rfl,c⟩,.two (.refl _) (.ag4 k1.weak k2.weak k3.weak)⟩
abbrev zB:Ob:= .box 63 (Qe zS zA jF jF)
structure AllI (h h':List Ob) (s:Setup) (b:Bk) (y:AV) (rows:List (List AV)):Prop where
 pre:Pre h h'
 b0:h'[h.length]? =some (.box 63 (Qe s (frA s) (BX b) (BC b)))
 b1:h'[h.length+1]? =some zB
 own:OwnS h h' 71 4 y rows
theorem WHa{l:List Cm}{i:Nat}(h:i<l.length):(l.map ZT)[i]? =some (ZT l[i]):=by rw[zz,zi h];rfl
theorem w1a{n:Nat}:∀l:List An,qO n (l.map wQ)=true
 | []=>rfl
 | a::l=>by
   rw[List.map_cons,qO,w1a l]
   simp only[AV.lt,qy,Zp,zAa,Qc,Bool.and_self]
def WeakL(l l':List AV):Prop:=∀(c:Ctx) (vs:List Value),ARs c l vs->ARs c l' vs
theorem WeakL.refl(l:List AV):WeakL l l:=λ_ _ h=>h
theorem WeakL.cons{a b:AV}{l l':List AV}(f:WeakV a b)(d:WeakL l l'):WeakL (a::l) (b::l'):=λc vs ⟨u,r,e,k1,k2⟩=>⟨u,r,e,f c u k1,d c r k2⟩
theorem WeakL.app{l l':List AV}:∀(k:List AV),WeakL l l'->WeakL (k++l) (k++l')
 | [],h=>h
 | _::k,h=> .cons (.refl _) (WeakL.app k h)
theorem WeakV.ag{l l':List AV}(h:WeakL l l'):WeakV (.ag l) (.ag l'):=λc v ⟨vs,e,k⟩=>⟨vs,e,h c _ k⟩
def jVb:AV:= .ag (Qe zS zA jF jF)
theorem jWb(h:List Ob)(s:Setup)(a:SA)(k:SIn h s a)(f:SFit s):
  ACalls Tryz.prog 26 [jg s a] h λr h'=>r= .tup [if z6 s then BV s Kx else jVb,i64 (if z6 s then 0 else 70)]/\h'=h:=
 wN (x0b h s a k f) λr h' ⟨c,b⟩=>by
  subst c
  refine⟨_,⟨rfl,b⟩,?_⟩
  unfold QHa
  cases z6 s
  ·exact .refl _
  ·refine .two (.ag ?_) (.refl _)
   exact WeakL.app ((Qe s (frA s) nl nl).take 23) (.cons (.nil 11) (.cons (.nil 1) (.refl [])))
end Go.Proofs.YtigdlmpjijhpaaaGreat.Ax
namespace Go.Proofs.YtigdlmpjijhpaaaGreat.Ax
open Go Go.Proofs
set_option maxRecDepth 100000
theorem qdb{s:Setup}(h:jYa s=true):s.rates.length<4096:=by
 simp only[jYa,decide_eq_true_eq] at h
 omega
def s2:Setup:=⟨1,[],(1,1),[((1,1),(1,1))],[(1,1)],[(1,1)],0,1,36000,0,86400,0,28800,43200,144000,0,0,[1500],0,0,0,[]⟩
def ev0:Ev:=⟨0,0,0,0,0,0,0,0,0,0,0⟩
def qla:Ev:=⟨1,0,0,1,0,0,0,0,0,0,0⟩
def jXb:Ev:=⟨2,0,3600,2,0,0,0,0,0,0,0⟩
def fx0:Fx:=⟨0,ev0⟩
def cm0(k:Int):Cm:=⟨k,fx0,0,0,0⟩
def l2:List Cm:=[⟨1,⟨0,qla⟩,0,0,0⟩,⟨2,⟨1,jXb⟩,0,0,0⟩,⟨1,⟨0,qla⟩,0,0,0⟩,cm0 5,⟨2,⟨2,qla⟩,0,0,0⟩,cm0 3,cm0 4,cm0 7,cm0 5,cm0 9,cm0 6,cm0 7,cm0 8]
def a2(n:Nat):SA:=⟨.v (.slice none 0 0),.tl (n+2) 0,.tl (n+3) 0,.tl (n+4) 0,.tl (n+5) 0,.v (.slice none 0 0)⟩
def H2(n:Nat):List Ob:=[.box 30 (qg s2 (a2 n)),.box 24 (jS (1,1)),.row 183 4 (s2.elements.map XM) 0,.row 24 2 (s2.classes.map jS) 0,.row 24 2 (s2.gears.map jS) 0,.row 3 1 (s2.rates.map qz) 0]
theorem x5b(h:List Ob):SIn h zS zA:=⟨ZP,ZP,ZP,ZP,ZP,ZP⟩
theorem x6b:SFit zS:=⟨by simp[Fit,zS],by simp[jq,Fit,zS],by simp[jq,Fit,zS],by simp[jq,Fit,zS],by simp[jq,Fit,zS],by simp[jq,Fit,zS],by simp[zS],by simp[zS],by simp[zS],by simp[zS],by simp[zS],by simp[zS]⟩
theorem okz:z6 zS=false:=by kernel_rfl
end Go.Proofs.YtigdlmpjijhpaaaGreat.Ax
namespace Go.Proofs.YtigdlmpjijhpaaaGreat.Ax
open Go Go.RowKit Go.ChangeShapes Go.WideShapes
def Yxa(r:List Int):Cm:=⟨wR r 0,⟨wR r 1,⟨wR r 2,wR r 3,wR r 4,wR r 5,wR r 6,wR r 7,wR r 8,wR r 9,wR r 10,wR r 11,wR r 12⟩⟩,wR r 13,wR r 14,wR r 15⟩
theorem zVb:∀ {r:List Int},r.length=16->r.map i64=ZT (Yxa r)
 | [_,_,_,_,_,_,_,_,_,_,_,_,_,_,_,_],_=>rfl
def InCms(w:World)(v:Value):Prop:=∃(x:AV) (l:List Cm),AR (c0 w) x v/\SlOf [] x 16 (l.map ZT)
section
variable {H:Type} {enc:TypeId × Value->H} {w:World} {base:Nat} {held:Bool}
theorem cms_in{b:Nat}{v:Value}{x:DataW H × List MemPlace}(h:DataW.trod enc Tryz.prog w base (λ_=>true) held b 61 [v]=some x):InCms w v:=by
 obtain⟨a,rows,j,c,d⟩:=KAa Tryz.underlying61 (n:=5) (by kernel_rfl) h
 have e:Tryz.prog.cellsOf 79=16:=by kernel_rfl
 rw[e] at c d
 rw[Js (f:=Yxa) (g:=ZT) zVb λr i=>(d r i).1] at c
 exact⟨a,_,j,c⟩
end
end Go.Proofs.YtigdlmpjijhpaaaGreat.Ax
namespace Go.Proofs.YtigdlmpjijhpaaaGreat.Ax
open Go Go.Proofs
set_option maxRecDepth 100000
theorem kjb:((70:Int) != 0)=true:=rfl
abbrev bkO(s:Setup)(b:Bk):Ob:= .box 63 (Qe s (frA s) (BX b) (BC b))
structure HasB (h H:List Ob) (s:Setup) (a:SA) (b:Bk):Prop where
 pre:Pre h H
 st:H[h.length]? =some (.box 30 (qg s a))
 bk:H[h.length+1]? =some (bkO s b)
open Go.RowKit
structure NumI (h H:List Ob) (s:Setup) (l:List Int) (st b:Nat):Prop where
 pre:Pre h H
 box:H[h.length]? =some (.box 30 (qg s (frA s)))
 row:H[h.length+1]? =some (.row 3 1 (l.map qz) st)
 len:l.length=b
theorem Zq{α:Type}(f:α->List AV){l:List α}{n:Nat}(h:n<l.length):(l.map f)[n]? =some (f l[n]):=by rw[zz,zi h];rfl
theorem kgb(h:List Ob)(l:List Ev)(d:l.length<1099511627776):
  ACalls Tryz.prog 106 [.sl 11 (l.map evC),.sl 11 (l.map evC)] h λr h'=>r=bl true/\h'=h:=by
 refine zj Tryz.f106 [.tmp 4] 26 rfl rfl rfl rfl rfl rfl (by decide) (⟨_,_,⟨rfl,rfl⟩,.refl⟩) λB=>?_
 simp only[go_sem,zb,bne_self_eq_false]
 refine zO (by decide) (λm T h'=>h'=h/\∃k:Nat,k<=l.length/\T 0= .sl 11 (l.map evC)/\T 1= .sl 11 (l.map evC)/\T 5=i64 k/\m=l.length - k) l.length
  ⟨rfl,0,by omega,by simp only[go_sem],by simp only[go_sem],by(simp only[go_sem]<;>rfl),rfl⟩ ?_
 rintro m T h' ⟨rfl,k,f,t0,t1,t5,rfl⟩
 simp only[go_sem,t5,t0,zb]
 refine ways (λe=>?_) (λe=>?_)
 ·have c:=dlt e
  have a:=Zq evC c
  have b:(k:Int)<l.length:=by omega
  simp only[go_sem]
  refine zQ rfl [] 0 [(0,0,[]),(1,0,[]),(4,0,[]),(5,0,[]),(2,0,[]),(3,0,[]),(6,0,[]),(7,0,[]),(8,0,[])] rfl (by decide) (by decide) ?_
  simp only[go_sem,t5,t0,t1,a,b,evC,zb,Int.toNat_natCast,zf,beq_self_eq_true,Bool.and_self,Bool.not_true,qv,bne_self_eq_false]
  exact⟨l.length - (k+1),by omega,k+1,by omega,qn (by omega) rfl,rfl⟩
 ·simp only[go_sem]
  refine zn ?_<;>(simp only[go_sem]<;>try rfl)
theorem zWb(h:List Ob)(l:List Flg)(d:l.length<1099511627776):
  ACalls Tryz.prog 85 [.sl 2 (l.map xW),.sl 2 (l.map xW)] h λr h'=>r=bl true/\h'=h:=by
 refine zj Tryz.f85 [.tmp 4] 26 rfl rfl rfl rfl rfl rfl (by decide) (⟨_,_,⟨rfl,rfl⟩,.refl⟩) λB=>?_
 simp only[go_sem,zb,bne_self_eq_false]
 refine zO (by decide) (λm T h'=>h'=h/\∃k:Nat,k<=l.length/\T 0= .sl 2 (l.map xW)/\T 1= .sl 2 (l.map xW)/\T 5=i64 k/\m=l.length - k) l.length
  ⟨rfl,0,by omega,by simp only[go_sem],by simp only[go_sem],by(simp only[go_sem]<;>rfl),rfl⟩ ?_
 rintro m T h' ⟨rfl,k,f,t0,t1,t5,rfl⟩
 simp only[go_sem,t5,t0,zb]
 refine ways (λe=>?_) (λe=>?_)
 ·have c:=dlt e
  have a:=Zq xW c
  have b:(k:Int)<l.length:=by omega
  simp only[go_sem]
  refine zQ rfl [] 0 [(0,0,[]),(1,0,[]),(4,0,[]),(5,0,[]),(2,0,[]),(3,0,[]),(6,0,[]),(7,0,[]),(8,0,[])] rfl (by decide) (by decide) ?_
  simp only[go_sem,t5,t0,t1,a,b,xW,zb,Int.toNat_natCast,zf,beq_self_eq_true,Bool.and_self,Bool.not_true,qv,bne_self_eq_false]
  exact⟨l.length - (k+1),by omega,k+1,by omega,qn (by omega) rfl,rfl⟩
 ·simp only[go_sem]
  refine zn ?_<;>(simp only[go_sem]<;>try rfl)
theorem jYb:Tryz.prog.stoodInHeld 42=false:=by kernel_rfl
theorem jZb:xB Tryz.prog 42=true:=by unfold xB;rw[Tryz.eqGuardType42,jYb];rfl
theorem khb(h:List Ob)(R:RowV × List Flg)(a:R.2.length<1099511627776):ACalls Tryz.prog 30 [.ag (je R),.ag (je R)] h λr h'=>r=bl true/\h'=h:=by
 refine zj Tryz.f30 [.tmp 4] 100 rfl rfl rfl rfl rfl rfl (by decide) (⟨_,_,⟨rfl,rfl⟩,.refl⟩) λB=>?_
 simp only[go_sem,jZb,K0a,je,vf,List.cons_append,List.nil_append,beq_self_eq_true,Bool.and_self,qv]
 refine zh (zWb _ R.2 a) ?_
 rintro _ b ⟨rfl,rfl⟩
 simp only[go_sem,je,vf,List.cons_append,List.nil_append,beq_self_eq_true,Bool.and_self,qv]
 refine zn ?_<;>(simp only[go_sem]<;>try rfl)
structure AnFew (w:An):Prop where
 rows:w.rows.length<1099511627776
 flgs:∀R∈w.rows,R.2.length<1099511627776
 segs:w.segs.length<1099511627776
end Go.Proofs.YtigdlmpjijhpaaaGreat.Ax
namespace Go.Proofs.YtigdlmpjijhpaaaGreat.Ax
open Go Go.Proofs
abbrev RW:=RowV × List Flg
abbrev Ky:=Int × Int
structure Ch where
 bk:Bk
 rows:List RW
def qY(r:RW):Ky:=(r.1.worker,r.1.week)
def yI(r:RW):List RW->List RW
 | []=>[r]
 | y::l=>if ltK (qY r) (qY y) then r::y::l else if qY r=qY y then r::l else y::yI r l
def isH(l:List RW)(k:Ky):Bool:=l.any λr=>qY r==k
def yJ(l:List RW):Prop:=l.Pairwise λa b=>ltK (qY a) (qY b)=true
theorem Vs(a:Ky):ltK a a=false:=by simp[ltK]
theorem ZU{a b:Ky}(h:ltK a b=true):a≠b:=λe=>by rw[e,Vs] at h;cases h
theorem KB{a b c:Ky}(h:ltK a b=true)(g:ltK b c=true):ltK a c=true:=by
 rw[xF] at *; omega
theorem y4a{a b:Ky}(h:ltK a b=false)(g:a≠b):ltK b a=true:=by
 have h:¬ (a.1<b.1∨(a.1=b.1/\a.2<b.2)):=λq=>by rw[xF.2 q] at h;cases h
 have g:¬ (a.1=b.1/\a.2=b.2):=λq=>g (Prod.ext q.1 q.2)
 rw[xF];omega
theorem via{a b:Ky}(h:ltK a b=true):ltK b a=false:=by
 cases q:ltK b a
 ·rfl
 ·have:=KB h q;rw[Vs] at this;cases this
theorem wo{l:List RW}{k:Ky}:isH l k=true↔∃r∈l,qY r=k:=by
 simp[isH,List.any_eq_true]
theorem y5a{r:RW}{k:Ky}:∀ {l:List RW},isH (yI r l) k=(qY r==k || isH l k)
 | []=>rfl
 | y::l=>by
   unfold yI
   split
   ·rfl
   ·split
    ·rename_i h
     show(qY r==k || isH l k)=(qY r==k || (qY y==k || isH l k))
     rw[h]
     cases qY y==k<;>rfl
    ·show(qY y==k || isH (yI r l) k)=(qY r==k || (qY y==k || isH l k))
     rw[y5a (l:=l)]
     cases qY y==k<;>cases qY r==k<;>rfl
theorem Vt{r z:RW}:∀ {l:List RW},z∈yI r l->z=r∨(z∈l/\qY z≠qY r)∨(z∈l/\¬ yJ l)
 | [],h=> .inl (by simpa [yI] using h)
 | y::l,h=>by
   unfold yI at h
   by_cases a:yJ (y::l)
   ·obtain⟨c,d⟩:=zR.1 a
    split at h
    ·rename_i b
     rcases zy.1 h with rfl|h
     ·exact .inl rfl
     ·refine .inr (.inl ⟨h,λe=>?_⟩)
      rcases zy.1 h with rfl|h
      ·exact ZU b e.symm
      ·exact ZU (KB b (c z h)) e.symm
    ·split at h
     ·rename_i b
      rcases zy.1 h with rfl|h
      ·exact .inl rfl
      ·exact .inr (.inl ⟨.tail _ h,λe=>ZU (c z h) (by rw[<-b,e])⟩)
     ·rename_i b
      rcases zy.1 h with rfl|h
      ·exact .inr (.inl ⟨.head _,λe=>b e.symm⟩)
      ·rcases Vt h with q|q|q
       ·exact .inl q
       ·exact .inr (.inl ⟨.tail _ q.1,q.2⟩)
       ·exact absurd d q.2
   ·split at h
    ·rcases zy.1 h with rfl|h
     ·exact .inl rfl
     ·exact .inr (.inr ⟨h,a⟩)
    ·split at h
     ·rcases zy.1 h with rfl|h
      ·exact .inl rfl
      ·exact .inr (.inr ⟨.tail _ h,a⟩)
     ·rcases zy.1 h with rfl|h
      ·exact .inr (.inr ⟨.head _,a⟩)
      ·rcases Vt h with q|q|q
       ·exact .inl q
       ·exact .inr (.inr ⟨.tail _ q.1,a⟩)
       ·exact .inr (.inr ⟨.tail _ q.1,a⟩)
theorem y6a(r:RW):∀l:List RW,r∈yI r l
 | []=> .head _
 | y::l=>by
   unfold yI
   split
   ·exact .head _
   ·split
    ·exact .head _
    ·exact .tail _ (y6a r l)
theorem zXa{r z:RW}(a:qY z≠qY r):∀ {l:List RW},z∈l->z∈yI r l
 | y::l,h=>by
   unfold yI
   split
   ·exact .tail _ h
   ·split
    ·rename_i b
     rcases zy.1 h with rfl|h
     ·exact absurd b.symm a
     ·exact .tail _ h
    ·rcases zy.1 h with rfl|h
     ·exact .head _
     ·exact .tail _ (zXa a h)
theorem xha{r:RW}:∀ {l:List RW},yJ l->yJ (yI r l)
 | [],_=>by simp[yI,yJ]
 | y::l,f=>by
   obtain⟨e,d⟩:=zR.1 f
   unfold yI
   split
   ·rename_i b
    refine zR.2 ⟨λz a=>?_,f⟩
    rcases zy.1 a with rfl|a
    ·exact b
    ·exact KB b (e z a)
   ·split
    ·rename_i b
     exact zR.2 ⟨λz a=>by rw[b];exact e z a,d⟩
    ·rename_i b c
     refine zR.2 ⟨λz a=>?_,xha d⟩
     rcases Vt a with rfl|q|q
     ·exact y4a (by simpa using b) c
     ·exact e z q.1
     ·exact absurd d q.2
theorem xia{r:RW}:∀ {l:List RW},yJ l->(yI r l).length=l.length+if isH l (qY r) then 0 else 1
 | [],_=>rfl
 | y::l,d=>by
   obtain⟨g,f⟩:=zR.1 d
   unfold yI
   split
   ·rename_i a
    have:isH (y::l) (qY r)=false:=by
     cases q:isH (y::l) (qY r)
     ·rfl
     ·obtain⟨z,c,e⟩:=wo.1 q
      rcases zy.1 c with rfl|c
      ·exact absurd e.symm (ZU a)
      ·exact absurd e.symm (ZU (KB a (g z c)))
    rw[this];rfl
   ·split
    ·rename_i a
     have:isH (y::l) (qY r)=true:=wo.2 ⟨y,.head _,a.symm⟩
     rw[this];rfl
    ·rename_i a b
     have:isH (y::l) (qY r)=isH l (qY r):=by
      show(qY y==qY r || isH l (qY r))=_
      rw[beq_eq_false_iff_ne.2 (λe=>b e.symm),Bool.false_or]
     rw[this,List.length_cons,xia f,List.length_cons]
     omega
def JC(s:Setup)(ev:List Ev)(want:Bool)(t:List RW × List Ky)(k:Ky):List RW × List Ky:=
 if isH t.1 k==want then(yI (qi s ev k.1 k.2) t.1,t.2++[k]) else t
def kZ(s:Setup)(ev:List Ev)(want:Bool)(t:List RW × List Ky)(ks:List Ky):List RW × List Ky:=ks.foldl (JC s ev want) t
theorem zYa(s:Setup)(ev:List Ev)(w wk:Int)(a:0<=w):qY (qi s ev w wk)=(w,wk):=by
 unfold qi
 split
 ·rfl
 ·show((w.toNat:Int),wk)=(w,wk)
  rw[Int.toNat_of_nonneg a]
structure SomeOk (s:Setup) (ev:List Ev) (want:Bool) (R:List RW) (ks:List Ky) (R':List RW) (nw:List Ky):Prop where
 srt:yJ R'
 keys:nw=ks.filter λk=>isH R k==want
 held:∀k,isH R' k=(isH R k || nw.contains k)
 new:∀z∈R',(qY z∈nw/\z=qi s ev (qY z).1 (qY z).2)∨(z∈R/\qY z∉nw)
 old:∀z∈R,qY z∉nw->z∈R'
 got:∀k∈nw,qi s ev k.1 k.2∈R'
 len:R'.length=R.length+if want then 0 else nw.length
theorem j0b{α:Type}{P:List α->Prop}(h0:P [])(a:∀l c,P l->P (l++[c]))(l:List α):P l:=by
 have h:∀r:List α,P r.reverse:=λr=>by
  induction r with
  | nil=>exact h0
  | cons c r b=>rw[List.reverse_cons];exact a _ _ b
 simpa using h l.reverse
theorem y7a{s:Setup}{ev:List Ev}{want:Bool}{R:List RW}(x:yJ R):∀(ks:List Ky),ks.Nodup->(∀k∈ks,(isH R k==want)=true->0<=k.1)->∀(b:List Ky),
  ∃c new,kZ s ev want (R,b) ks=(c,b++new)/\SomeOk s ev want R ks c new:=by
 intro ks
 refine j0b (P:=λks=>ks.Nodup->(∀k∈ks,(isH R k==want)=true->0<=k.1)->∀(b:List Ky),∃c new,kZ s ev want (R,b) ks=(c,b++new)/\SomeOk s ev want R ks c new) ?_ ?_ ks
 ·exact λ_ _ b=>⟨R,[],by rw[zM];rfl,x,rfl,λk=>by simp,λz f=> .inr ⟨f,by simp⟩,λz f _=>f,λk h=>(by cases h),by cases want<;>rfl⟩
 ·intro ks k w t r b
  rw[List.nodup_append] at t
  obtain⟨n1,_,n2⟩:=t
  have n:k∉ks:=λh=>n2 k h k (by simp) rfl
  obtain⟨c,new,e,o⟩:=w n1 (λz f=>r z (List.mem_append_left _ f)) b
  have i:k∉new:=λh=>n (by rw[o.keys] at h;exact(zL.1 h).1)
  have v:isH c k=isH R k:=by
   rw[o.held,show new.contains k=false by simpa using i,Bool.or_false]
  have es:kZ s ev want (R,b) (ks++[k])=JC s ev want (c,b++new) k:=by
   unfold kZ at e⊢
   rw[qK,e]
   rfl
  rw[es]
  unfold JC
  simp only[v]
  cases q:isH R k==want
  ·refine⟨c,new,rfl,o.srt,?_,o.held,o.new,o.old,o.got,o.len⟩
   rw[qo, <-o.keys]
   simp[q]
  ·have a:qY (qi s ev k.1 k.2)=k:=zYa s ev k.1 k.2 (r k (by simp) q)
   refine⟨yI (qi s ev k.1 k.2) c,new++[k],by simp,xha o.srt,?_,?_,?_,?_,?_,?_⟩
   ·rw[qo, <-o.keys]
    simp[q]
   ·intro j
    rw[y5a,a,o.held]
    have:(new++[k]).contains j=(new.contains j || k==j):=by
     have u:∀l:List Ky,l.contains j=decide (j∈l):=λl=>List.contains_eq_mem j l
     rw[u,u,Bool.eq_iff_iff,Bool.or_eq_true,decide_eq_true_eq,decide_eq_true_eq,zI,zW,beq_iff_eq]
     exact or_congr_right eq_comm
    rw[this]
    cases k==j<;>cases isH R j<;>cases new.contains j<;>rfl
   ·intro z f
    rcases Vt f with rfl|⟨p,g⟩|⟨_,g⟩
    ·exact .inl ⟨by rw[a];simp,by rw[a]⟩
    ·rw[a] at g
     rcases o.new z p with⟨a1,a2⟩|⟨a1,a2⟩
     ·exact .inl ⟨List.mem_append_left _ a1,a2⟩
     ·exact .inr ⟨a1,λh=>by
       rcases zI.1 h with h|h
       ·exact a2 h
       ·exact g (by simpa using h)⟩
    ·exact absurd o.srt g
   ·intro z f h
    have p:qY z∉new:=λq=>h (List.mem_append_left _ q)
    have g:qY z≠k:=λq=>h (by rw[q];simp)
    exact zXa (by rw[a];exact g) (o.old z f p)
   ·intro j d
    by_cases e:j=k
    ·subst e
     exact y6a _ _
    ·have d:j∈new:=by
      rcases zI.1 d with d|d
      ·exact d
      ·exact absurd (by simpa using d) e
     have m:0<=j.1:=by
      rw[o.keys] at d
      have:=zL.1 d
      exact r j (List.mem_append_left _ this.1) this.2
     exact zXa (by rw[a,zYa s ev _ _ m];exact e) (o.got j d)
   ·rw[xia o.srt,o.len,a,v]
    cases want
    ·have:isH R k=false:=by simpa using q
     rw[this,zg]
     simp
     omega
    ·have:isH R k=true:=by simpa using q
     rw[this]
     simp
def wy(q:Cm):Fx:=if q.kind=1 then⟨1,q.fx.ev⟩ else q.fx
def va(s:Setup)(q:Cm):List Ky:=if q.kind=7 then(List.range s.rates.length).map λ(w:Nat)=>((w:Int),q.week) else [(q.worker,q.week)]
def Wk:RW:=(⟨0,0,0,λ_=>0,λ_=>0,(0,0),(0,0),0,0,0,0,0⟩,[])
def QU(l:List RW)(k:Ky):RW:=(l.find? λr=>qY r==k).getD Wk
def vd(s:Setup)(x:Ch)(q:Cm):Ch × An × List Ky:=
 if q.kind=3/\jc s q=false then(x,wt 80,[])
 else if kr q=false∨(q.kind=7/\jt x.bk.shut q.week=false) then(x,wt 212,[])
 else
  let t:=kZ s x.bk.evs false (x.rows,[]) (va s q)
  let rs:=(va s q).map (QU t.1)
  (⟨x.bk,t.1⟩,⟨if q.kind=7 then(jY rs).2 else 0,rs,[],if q.kind=7 then(jY rs).1 else []⟩,t.2)
def doC(s:Setup)(x:Ch)(q:Cm):Ch × An × List Ky:=
 if q.kind=3∨q.kind=7 then vd s x q
 else if(doP s x.bk q).2.err=0/\(q.kind=1∨q.kind=2) then
  let t:=kZ s (doP s x.bk q).1.evs true (x.rows,[]) (jp s x.bk.evs (wy q))
  (⟨(doP s x.bk q).1,t.1⟩,(doP s x.bk q).2,t.2)
 else(⟨(doP s x.bk q).1,x.rows⟩,(doP s x.bk q).2,[])
def ku(s:Setup):Ch->List Cm->Ch × List An × List (List Ky)
 | x,[]=>(x,[],[])
 | x,q::l=>((ku s (doC s x q).1 l).1,(doC s x q).2.1::(ku s (doC s x q).1 l).2.1,(doC s x q).2.2::(ku s (doC s x q).1 l).2.2)
structure ChI (s:Setup) (x:Ch):Prop where
 bk:BkI s x.bk
 srt:yJ x.rows
 val:∀r∈x.rows,r=qi s x.bk.evs (qY r).1 (qY r).2
 rng:∀r∈x.rows,(0<=(qY r).1/\(qY r).1<(s.rates.length:Int))/\0<=(qY r).2/\(qY r).2<=52
def zZa:Ch:=⟨Kx,[]⟩
theorem z0a(s:Setup):ChI s zZa:=⟨QIa s,.nil,λ_ h=>(by cases h),λ_ h=>by cases h⟩
theorem vja{s:Setup}{q:Cm}:jc s q=true↔0<=q.worker/\q.worker<(s.rates.length:Int):=by
 unfold jc
 simp
theorem KBa{l:List RW}(d:yJ l){r:RW}(a:r∈l):l.find? (λz=>qY z==qY r)=some r:=by
 induction l with
 | nil=>cases a
 | cons y l b=>
   obtain⟨e,c⟩:=zR.1 d
   rw[List.find?_cons]
   rcases zy.1 a with rfl|a
   ·simp
   ·have:(qY y==qY r)=false:=beq_eq_false_iff_ne.2 (ZU (e r a))
    rw[this]
    exact b c a
theorem Ya{l:List RW}(a:yJ l){r:RW}(b:r∈l):QU l (qY r)=r:=by
 unfold QU
 rw[KBa a b]
 rfl
theorem ChI.get{s:Setup}{x:Ch}(i:ChI s x){k:Ky}(h:isH x.rows k=true):QU x.rows k=qi s x.bk.evs k.1 k.2:=by
 obtain⟨r,a,rfl⟩:=wo.1 h
 rw[Ya i.srt a]
 exact i.val r a
theorem z1a(l:List Ky):(Kia l).Nodup:=(Vm l).imp λh=>ZU h
theorem QWa(s:Setup)(q:Cm):(va s q).Nodup:=by
 unfold va
 split
 ·refine List.Pairwise.map _ (λa b h e=>h ?_) List.nodup_range
  have:=congrArg Prod.fst e
  omega
 ·simp
theorem xja{s:Setup}{q:Cm}(c:q.kind=3∨q.kind=7)(b:¬ (q.kind=3/\jc s q=false)){k:Ky}(a:k∈va s q):(0<=k.1/\k.1<(s.rates.length:Int))/\k.2=q.week:=by
 unfold va at a
 split at a
 ·rw[zt] at a
  obtain⟨w,b,rfl⟩:=a
  rw[qW] at b
  exact⟨⟨by simp only;omega,by simp only;omega⟩,rfl⟩
 ·rename_i e
  have c:q.kind=3:=by omega
  rw[zW] at a
  subst a
  have:jc s q=true:=by
   cases d:jc s q
   ·exact absurd ⟨c,d⟩ b
   ·rfl
  exact⟨vja.1 this,rfl⟩
theorem xka{s:Setup}{x:Ch}{q:Cm}(i:ChI s x)(n:q.kind=3∨q.kind=7):
  ((q.kind=3/\jc s q=false)/\vd s x q=(x,wt 80,[]))∨
  (¬ (q.kind=3/\jc s q=false)/\(kr q=false∨(q.kind=7/\jt x.bk.shut q.week=false))/\vd s x q=(x,wt 212,[]))∨
  (¬ (q.kind=3/\jc s q=false)/\kr q=true/\(q.kind=7->jt x.bk.shut q.week=true)/\∃a new,SomeOk s x.bk.evs false x.rows (va s q) a new/\ChI s ⟨x.bk,a⟩/\
   (∀k∈va s q,isH a k=true)/\kZ s x.bk.evs false (x.rows,[]) (va s q)=(a,new)/\
   vd s x q=(⟨x.bk,a⟩,⟨if q.kind=7 then(jY ((va s q).map λk=>qi s x.bk.evs k.1 k.2)).2 else 0,(va s q).map λk=>qi s x.bk.evs k.1 k.2,[],if q.kind=7 then(jY ((va s q).map λk=>qi s x.bk.evs k.1 k.2)).1 else []⟩,new)):=by
 by_cases b:q.kind=3/\jc s q=false
 ·exact .inl ⟨b,by unfold vd;rw[if_pos b]⟩
 ·by_cases f:kr q=false∨(q.kind=7/\jt x.bk.shut q.week=false)
  ·exact .inr (.inl ⟨b,f,by unfold vd;rw[if_neg b,if_pos f]⟩)
  ·have d:kr q=true:=by
    cases g:kr q
    ·exact absurd (.inl g) f
    ·rfl
   have l:=λk h=>xja (s:=s) (q:=q) n b (k:=k) h
   obtain⟨a,new,e,o⟩:=y7a (s:=s) (ev:=x.bk.evs) (want:=false) i.srt (va s q) (QWa s q) (λk h _=>(l k h).1.1) []
   rw[List.nil_append] at e
   have c:∀k∈va s q,isH a k=true:=λk h=>by
    rw[o.held]
    cases g:isH x.rows k
    ·have:k∈new:=by rw[o.keys,zL];exact⟨h,by rw[g];rfl⟩
     simpa using this
    ·rfl
   have hi:ChI s ⟨x.bk,a⟩:=⟨i.bk,o.srt,λz j=>by
    rcases o.new z j with⟨_,h⟩|⟨h,_⟩
    ·exact h
    ·exact i.val z h,λz j=>by
    rcases o.new z j with⟨h,_⟩|⟨h,_⟩
    ·rw[o.keys] at h
     have:=l _ (zL.1 h).1
     refine⟨this.1,?_⟩
     rw[this.2]
     exact QQ.1 d
    ·exact i.rng z h⟩
   refine .inr (.inr ⟨b,d,λm=>?_,a,new,o,hi,c,e,?_⟩)
   ·cases g:jt x.bk.shut q.week
    ·exact absurd (.inr ⟨m,g⟩) f
    ·rfl
   ·unfold vd
    rw[if_neg b,if_neg f,e]
    have:(va s q).map (QU a)=(va s q).map λk=>qi s x.bk.evs k.1 k.2:=List.map_congr_left λk h=>hi.get (c k h)
    simp only[this]
set_option maxRecDepth 100000
def s3:Setup:=⟨1,[],(1,1),[((1,1),(1,1))],[(1,1)],[(1,1)],0,1,3600,0,86400,0,28800,43200,144000,0,0,[1500,1000],0,0,0,[]⟩
def cmB:Cm:=⟨1,⟨0,qla⟩,0,0,0⟩
def l3:List Cm:=[cm0 3,cm0 3,cmB,cm0 3,cm0 5,cm0 7]
def rA3:RowV × List Flg:=qi s3 [] 0 0
def rB3:RowV × List Flg:=qi s3 [qla] 0 0
def rC3:RowV × List Flg:=qi s3 [qla] 1 0
def j1b:List Int:=(jY [rB3,rC3]).1
def an3:List An:=[⟨0,[rA3],[],[]⟩,⟨0,[rA3],[],[]⟩,wt 0,⟨0,[rB3],[],[]⟩,wt 0,⟨0,[rB3,rC3],[],j1b⟩]
def ks3:List (List Ky):=[[(0,0)],[],[(0,0)],[],[],[(1,0)]]
theorem Jt:ku s3 zZa l3=(⟨⟨[qla],[0]⟩,[rB3,rC3]⟩,an3,ks3):=by kernel_rfl
theorem zXb:rB3.1.total=1500:=by kernel_rfl
theorem j2b:rC3.1.worker=1:=by kernel_rfl
theorem x7b:QU [rB3,rC3] (1,0)=rC3:=by kernel_rfl
theorem is3:isH [rB3,rC3] (1,0)=true:=by kernel_rfl
theorem x8b:isH [rB3,rC3] (1,1)=false:=by kernel_rfl
theorem ok3:z6 s3=true:=by kernel_rfl
def vka(a b:Int):Int:=if a=0 then b else a
theorem cOr(h:List Ob)(x:AV)(a b:Int)(l:SlOf h x 1 [qz a,qz b]):ACalls Tryz.prog 176 [x] h λr h'=>r=i64 (vka a b)/\h'=h:=by
 have c:=l.rows
 have e:=l.at (i:=0) (by simp)
 refine zj Tryz.f176 [.tmp 2] 18 rfl rfl rfl rfl rfl rfl (by decide) (⟨_,_,⟨rfl,rfl⟩,.refl⟩) λB=>?_
 simp only[go_sem,c,List.length_cons,List.length_nil]
 refine zO (by decide) (λm T h'=>h'=h/\∃j:Nat,j<=2/\T 3=i64 0/\T 6=x/\T 7=i64 2/\T 8=i64 j/\(1<=j->a=0)/\(2<=j->b=0)/\m=2 - j) 2
  ⟨rfl,0,by omega,by(simp only[go_sem]<;>rfl),by simp only[go_sem],by(simp only[go_sem]<;>rfl),by(simp only[go_sem]<;>rfl),λh=>by omega,λh=>by omega,rfl⟩ ?_
 rintro m T h' ⟨rfl,j,u,t3,t6,d,t8,g,s,rfl⟩
 have n:decide ((0:Int)<2)=true:=rfl
 have o:decide ((1:Int)<2)=true:=rfl
 have p:decide ((2:Int)<2)=false:=rfl
 obtain rfl|rfl|rfl:j=0∨j=1∨j=2:=by omega
 ·have t8:T 8=i64 0:=t8
  cases q:(a != 0)
  ·have k:a=0:=by simpa using q
   simp only[go_sem,t3,t6,d,t8,c,e,q,n,qv,qz]
   exact⟨2 - (0+1),by omega,0+1,by omega,rfl,λ_=>k,λh=>by omega,rfl⟩
  ·have k:a≠0:=by simpa using q
   have f:vka a b=a:=if_neg k
   simp only[go_sem,t3,t6,d,t8,c,e,q,n,qv,qz]
   refine zn ?_<;>(simp only[go_sem,f]<;>try rfl)
 ·have t8:T 8=i64 1:=t8
  have f:vka a b=b:=if_pos (g (by omega))
  cases q:(b != 0)
  ·have t:b=0:=by simpa using q
   simp only[go_sem,t3,t6,d,t8,c,e,q,o,qv,qz]
   exact⟨2 - (1+1),by omega,1+1,by omega,rfl,λ_=>g (by omega),λ_=>t,rfl⟩
  ·simp only[go_sem,t3,t6,d,t8,c,e,q,o,qv,qz]
   refine zn ?_<;>(simp only[go_sem,f]<;>try rfl)
 ·have t8:T 8=i64 2:=t8
  have f:vka a b=0:=by rw[show vka a b=b from if_pos (g (by omega)),s (by omega)]
  simp only[go_sem,t3,t6,d,t8,c,e,p,qv]
  refine zn ?_<;>(simp only[go_sem,f,t3]<;>try rfl)
def jia(a b:Ky):Int:=vka (Kh a.1 b.1) (Kh a.2 b.2)
theorem KCa(a b:Ky):decide (jia a b<0)=ltK a b:=by
 rw[Bool.eq_iff_iff,decide_eq_true_eq,xF]
 unfold jia vka Kh
 split<;>split<;>(try split)<;>(try split)<;>omega
theorem KDa(a b:Ky):(jia a b==0)=(a==b):=by
 have h:(a==b)=(a.1==b.1 && a.2==b.2):=by
  rw[Bool.eq_iff_iff,zq,beq_iff_eq,beq_iff_eq,beq_iff_eq]
  exact⟨λh=>by rw[h];exact⟨rfl,rfl⟩,λh=>Prod.ext h.1 h.2⟩
 rw[h,Bool.eq_iff_iff,zq,beq_iff_eq,beq_iff_eq,beq_iff_eq]
 unfold jia vka Kh
 split<;>split<;>(try split)<;>(try split)<;>omega
theorem Yya(r:RW)(k:Ky):xy Tryz.prog 102 [.ag (je r),.ag (jl k)] (i64 (jia (qY r) k)):=λh=>by
 refine zj Tryz.f102 [.tmp 4] 17 rfl rfl rfl rfl rfl rfl (by decide) (⟨_,_,⟨rfl,rfl⟩,.refl⟩) λB=>?_
 simp only[go_sem,je,vf,jl,List.cons_append,List.nil_append]
 refine zQ rfl [.res] 1 [(0,0,[]),(2,0,[]),(5,0,[]),(7,0,[]),(1,0,[]),(3,0,[]),(6,0,[]),(8,0,[]),(4,0,[6,8]),(9,0,[]),(10,0,[]),(11,0,[]),(12,0,[])] rfl (by decide) (by decide) ?_
 simp only[go_sem,je,vf,jl,List.cons_append,List.nil_append]
 refine zh (c95 _ _ _) ?_
 rintro _ a ⟨rfl,rfl⟩
 simp only[go_sem,je,vf,jl,List.cons_append,List.nil_append]
 refine zh (c95 _ _ _) ?_
 rintro _ a ⟨rfl,rfl⟩
 simp only[go_sem,je,vf,jl,List.cons_append,List.nil_append]
 refine zh (cOr _ _ (Kh r.1.worker k.1) (Kh r.1.week k.2) (ZO (ty:=3) (st:=0) (by rw[zG (k:=2) rfl];rfl))) ?_
 rintro _ a ⟨rfl,rfl⟩
 simp only[go_sem]
 refine zn ?_<;>(simp only[go_sem,jia,qY]<;>try rfl)
def atR(l:List RW)(k:Ky):Nat:=(l.takeWhile λr=>ltK (qY r) k).length
theorem zYb(l:List RW)(k:Ky):atR l k<=l.length:=(List.takeWhile_prefix _).length_le
theorem w4a{k:Ky}:∀ {l:List RW} {i:Nat},i<=l.length->(∀t (h:t<l.length),t<i->ltK (qY l[t]) k=true)->(∀t (h:t<l.length),i<=t->ltK (qY l[t]) k=false)->atR l k=i
 | [],i,hi,_,_=>by simp at hi;subst hi;rfl
 | y::l,0,_,_,a=>by
   have:=a 0 (by simp) (zp _)
   simp only[List.getElem_cons_zero] at this
   unfold atR
   rw[List.takeWhile_cons,this]
   rfl
 | y::l,i+1,hi,b,a=>by
   have h0:=b 0 (by simp) (by omega)
   simp only[List.getElem_cons_zero] at h0
   have c:=w4a (k:=k) (l:=l) (i:=i) (by simpa using hi) (λt h q=>b (t+1) (by simpa using h) (by omega)) (λt h q=>a (t+1) (by simpa using h) (by omega))
   unfold atR at c⊢
   rw[List.takeWhile_cons,h0]
   simp[c]
theorem Vu{l:List RW}(b:yJ l){i j:Nat}(hi:i<l.length)(c:j<l.length)(a:i<j):ltK (qY l[i]) (qY l[j])=true:=
 List.pairwise_iff_getElem.1 b i j hi c a
theorem zZb{l:List RW}(d:yJ l){k:Ky}{i:Nat}(hi:i<=l.length)(j:∀t (h:t<l.length),t<i->ltK (qY l[t]) k=true)(c:∀t (h:t<l.length),i<=t->ltK (qY l[t]) k=false):isH l k=if h:i<l.length then qY l[i]==k else false:=by
 rw[Bool.eq_iff_iff,wo]
 constructor
 ·rintro ⟨r,f,rfl⟩
  obtain⟨t,b,rfl⟩:=List.mem_iff_getElem.1 f
  have g:¬ t<i:=λq=>by have:=j t b q;rw[Vs] at this;cases this
  by_cases e:t=i
  ·subst e
   rw[dif_pos b]
   exact beq_self_eq_true _
  ·have a:i<l.length:=by omega
   have:=Vu d a b (by omega)
   rw[c i a (zp _)] at this
   cases this
 ·intro h
  split at h
  ·rename_i a
   exact⟨_,zx a,by simpa using h⟩
  ·cases h
theorem z0b{i j:Nat}(h:i+j<9007199254740992):IntKind.wrap .i64 ((IntKind.wrap .u64 (IntKind.wrap .i64 ((i:Int)+j))).fdiv (2 ^ min 1 64))=(((i+j) / 2:Nat):Int):=by
 have e:(2:Int) ^ min 1 64=2:=by decide
 have b:IntKind.wrap .i64 ((i:Int)+j)=((i+j:Nat):Int):=qq (by unfold Fit;omega)
 have a:IntKind.wrap .u64 ((i+j:Nat):Int)=((i+j:Nat):Int):=by rw[IntKind.wrap_u64];omega
 rw[e,b,a,Int.fdiv_eq_ediv_of_nonneg _ (by decide)]
 exact qq (by unfold Fit;omega)
set_option maxHeartbeats 1000000 in
theorem KEa(h:List Ob)(x:AV)(l:List RW)(k:Ky)(u:SlOf h x 27 (l.map je))(z:yJ l)(P:l.length<1099511627776):
  ACalls Tryz.prog 101 [x,.ag (jl k),.fn (.func 102) [] []] h λr h'=>r= .tup [i64 (atR l k),bl (isH l k)]/\h'=h:=by
 have f:∀M,qc (h++M) x=some (l.map je):=λM=>(u.app M).rows
 have I:=u.rows
 refine zj Tryz.f101 [.tmp 6,.tmp 7] 49 rfl rfl rfl rfl rfl rfl (by decide) (⟨_,_,⟨rfl,rfl⟩,.refl⟩) λB=>?_
 simp only[go_sem,jl,f,I,zb]
 refine zO (by decide) (λm T h'=>h'=h++[.box 90 (jl k)]/\∃i j:Nat,i<=j/\j<=l.length/\T 0=x/\T 2= .fn (.func 102) [] []/\T 4= .ptr h.length 0/\T 8=i64 l.length/\T 9=i64 i/\T 10=i64 j/\
   (∀t (h:t<l.length),t<i->ltK (qY l[t]) k=true)/\(∀t (h:t<l.length),j<=t->ltK (qY l[t]) k=false)/\m=j - i) l.length
  ⟨rfl,0,l.length,by omega,by omega,by simp only[go_sem],by simp only[go_sem],by simp only[go_sem],by(simp only[go_sem]<;>rfl),by(simp only[go_sem]<;>rfl),by(simp only[go_sem]<;>rfl),λt h q=>by omega,λt h q=>by omega,rfl⟩ ?_
 rintro m T h' ⟨rfl,i,j,O,A,t0,t2,t4,t8,t9,t10,C,y,rfl⟩
 simp only[go_sem,t9,t10]
 refine ways (λe=>?_) (λe=>?_)
 ·have c:i<j:=by have:=of_decide_eq_true e;omega
  have o:=z0b (i:=i) (j:=j) (by omega)
  obtain⟨q,F⟩:∃q,q=(i+j) / 2:=⟨_,rfl⟩
  rw[<-F] at o
  have g:q<l.length:=by omega
  have a:=Zq je g
  have n:=λM=>(u.app M).at (i:=q) (by simpa using g)
  have d:(q:Int)<l.length:=by omega
  obtain⟨r,b⟩:∃r,r=l[q]:=⟨_,rfl⟩
  rw[<-b] at a
  simp only[go_sem,t9,t10,o]
  refine zQ rfl [] 0 [(0,0,[]),(1,0,[]),(2,0,[]),(3,0,[]),(4,0,[]),(5,0,[]),(6,0,[]),(7,0,[])] rfl (by decide) (by decide) ?_
  simp only[go_sem,t0,t2,t4,o,a,n,d,f,jl,zb,Int.toNat_natCast,zf,je,vf,List.cons_append,List.nil_append]
  refine zh (Yya r k _) ?_
  rintro _ K ⟨rfl,rfl⟩
  simp only[go_sem,KCa]
  refine ways (λp=>?_) (λp=>?_)
  ·simp only[go_sem,o]
   refine⟨j - (q+1),by omega,q+1,j,by omega,A,t0,t2,t4,t8,qn (by omega) rfl,t10,λt v E=>?_,y,rfl⟩
   by_cases D:t=q
   ·subst D;rw[<-b];exact p
   ·exact KB (Vu z v g (by omega)) (by rw[<-b];exact p)
  ·simp only[go_sem,o]
   refine⟨q - i,by omega,i,q,by omega,by omega,t0,t2,t4,t8,t9,rfl,C,λt v N=>?_,rfl⟩
   by_cases D:t=q
   ·subst D;rw[<-b];exact p
   ·cases H:ltK (qY l[t]) k
    ·rfl
    ·have:=KB (Vu z g v (by omega)) H
     rw[<-b,p] at this
     cases this
 ·have J:¬ i<j:=λq=>by have:=of_decide_eq_false e;omega
  have w:j=i:=by omega
  subst w
  have G:=w4a A C y
  have L:=zZb z A C y
  rw[G,L]
  by_cases c:j<l.length
  ·rw[dif_pos c]
   have a:=Zq je c
   have n:=λM=>(u.app M).at (i:=j) (by simpa using c)
   have d:(j:Int)<l.length:=by omega
   have s:decide ((j:Int)<(l.length:Int))=true:=decide_eq_true d
   obtain⟨r,b⟩:∃r,r=l[j]:=⟨_,rfl⟩
   rw[<-b] at a⊢
   simp only[go_sem]
   refine zQ rfl [] 0 [(0,0,[]),(1,0,[]),(2,0,[]),(3,0,[]),(4,0,[]),(5,0,[]),(6,0,[]),(7,0,[]),(8,0,[]),(9,0,[]),(10,0,[]),(11,0,[]),(12,0,[]),(13,0,[]),(14,0,[]),(15,0,[])] rfl (by decide) (by decide) ?_
   simp only[go_sem,t0,t2,t4,t8,t9,a,n,d,s,f,jl,zb,Int.toNat_natCast,zf,je,vf,List.cons_append,List.nil_append,qv]
   refine zh (Yya r k _) ?_
   rintro _ K ⟨rfl,rfl⟩
   simp only[go_sem,t9,s,KDa,qv]
   refine zn ?_<;>(simp only[go_sem]<;>try rfl)
  ·rw[dif_neg c]
   have s:decide ((j:Int)<(l.length:Int))=false:=decide_eq_false (by omega)
   simp only[go_sem]
   refine zQ rfl [] 0 [(0,0,[]),(1,0,[]),(2,0,[]),(3,0,[]),(4,0,[]),(5,0,[]),(6,0,[]),(7,0,[]),(8,0,[]),(9,0,[]),(10,0,[]),(11,0,[]),(12,0,[]),(13,0,[]),(14,0,[]),(15,0,[])] rfl (by decide) (by decide) ?_
   simp only[go_sem,t0,t2,t4,t8,t9,s,f,jl,zb,qv]
   refine zn ?_<;>(simp only[go_sem]<;>try rfl)
theorem WLa(l:List Flg):((l.map xW).all λr=>r.length==2 && r.all AV.one)=true:=by
 rw[qa];intro r a;obtain⟨s,_,rfl⟩:=zt.1 a;rfl
theorem QXa(h:List Ob)(x:AV)(rows:List (List AV))(b:SlOf h x 2 rows)(o:rows.length<1099511627776)(k:(rows.all λr=>r.length==2 && r.all AV.one)=true):
  ACalls Tryz.prog 177 [x] h λr h'=>(rows=[]/\h'=h/\r= .v (.slice none 0 0))∨(h'=h++[.row 105 2 rows 1]/\r= .tl h.length 1):=by
 refine jM (N:=8) (rs:=[.tmp 2]) (fn:=Tryz.f177) rfl rfl rfl rfl (qp rfl) rfl (⟨_,_,.inr ⟨rfl,rfl⟩,resK_app⟩) λB=>?_
 cases rows with
 | nil=>
   refine Zk 0 rfl b.rows (λm=>?_) ?_
   ·refine qD _ (by decide) ?_;simp only[go_sem]
    exact⟨.v (.slice none 0 0),by simp only[go_sem],.inl (.inl ⟨rfl,rfl⟩)⟩
   ·refine qD _ (by decide) ?_;simp only[go_sem]
    exact⟨.tl h.length 1,by simp only[go_sem],.inl (.inr ⟨rfl,rfl⟩)⟩
 | cons y l=>
   have j:=b.at (i:=0) (by simp)
   have g:=b.rows
   have d:xV x=false:=by
    rcases w9 g with⟨e,xs,rfl⟩|⟨i,s,rfl⟩|⟨a,e,i,n,rfl⟩<;>rfl
   unfold xV at d
   have c:∀L,qc (h++L) x=some (y::l):=λL=>(b.app L).rows
   have f:(y::l).length*17<=140737488355328:=by omega
   rw[List.length_cons] at f
   refine qD _ (by decide) ?_;simp only[go_sem,g,j,d,c,k,f,Bool.or_true,decide_true]
   exact⟨.tl h.length 1,by simp only[go_sem],.inl (.inr ⟨rfl,rfl⟩)⟩
theorem z1b(h:List Ob)(r:RW)(b:r.2.length<1099511627776):
  ACalls Tryz.prog 103 [.ag (je r)] h λv h'=>∃L x,h'=h++L/\NoRes L/\v= .ag (vf r.1++[x])/\New h 2 x (r.2.map xW) L:=by
 have hex:∃v h',(∃L x,h'=h++L/\NoRes L/\v=AV.ag (vf r.1++[x])/\New h 2 x (r.2.map xW) L)/\ResK h h':=⟨_,_,⟨[],.sl 2 _,rfl,jm,rfl,λ_ _=>⟨rfl,λ_=>rfl⟩⟩,resK_app⟩
 refine zj Tryz.f103 [.cell 2 45] 8 rfl rfl rfl rfl rfl rfl (by decide) (hex) λB=>?_
 simp only[go_sem,je,vf,List.cons_append,List.nil_append]
 refine zh (QXa _ (.sl 2 (r.2.map xW)) _ ⟨rfl,λ_=>rfl⟩ (by rw[zb];exact b) (WLa _)) ?_
 rintro v e a
 rcases a with⟨c,rfl,rfl⟩|⟨rfl,rfl⟩
 ·simp only[go_sem]
  refine⟨.ag (vf r.1++[.v (.slice none 0 0)]),?_,.inl ⟨_,.v (.slice none 0 0),rfl,zl rfl (zD rfl),rfl,?_⟩⟩
  ·simp only[go_sem]
   rfl
  ·rw[c]
   exact λd _=>⟨rfl,λh=>absurd rfl h⟩
 ·simp only[go_sem]
  refine⟨.ag (vf r.1++[.tl (h.length+2) 1]),?_,.inl ⟨_,.tl (h.length+2) 1,rfl,zl rfl (zl rfl (zD rfl)),rfl,?_⟩⟩
  ·simp only[go_sem]
   rfl
  ·exact OwnS.new (h0:=h) (ty:=105) (.inr ⟨h.length+2,1,by omega,rfl,by rw[zG (k:=2) rfl];rfl⟩) (zp _)
theorem j3b(h:List Ob)(r:RW)(a:r.2.length<1099511627776):ACalls Tryz.prog 103 [.ag (je r)] h λv h'=>v= .ag (je r)/\h'=h:=
 XZ (by decide) rfl (V4 _) (z1b h r a)
abbrev jK(s:Setup)(a:SA)(x c b:AV):List AV:=[i64 s.places,a.w,i64 s.pace.1,i64 s.pace.2,a.e,a.c,a.g,i64 s.allow,i64 s.unit,i64 s.cap,i64 s.paidBreak,i64 s.autoAfter,i64 s.autoBreak,
 i64 s.dayReg,i64 s.dayOver,i64 s.weekReg,i64 s.nightFrom,i64 s.nightTo,a.r,i64 s.diff,i64 s.least,i64 s.fault,a.t,x,c,b]
theorem WMa{l:List RW}{k:Ky}{i:Nat}(hi:i<l.length)(c:∀t (h:t<l.length),t<i->ltK (qY l[t]) k=true)(b:qY l[i]=k):QU l k=l[i]:=by
 unfold QU
 have:l.find? (λr=>qY r==k)=some l[i]:=by
  rw[List.find?_eq_some_iff_getElem]
  refine⟨by simp[b],i,hi,rfl,λj a=>?_⟩
  have:=ZU (c j (by omega) a)
  simpa using this
 rw[this]
 rfl
theorem j4b{l:List RW}{k:Ky}:∀ {t:Nat} (h:t<l.length),t<atR l k->ltK (qY l[t]) k=true:=λ{t} h c=>by
 have b:(l.takeWhile λr=>ltK (qY r) k)[t]? =some l[t]:=by
  obtain⟨R,a⟩:=List.takeWhile_prefix (p:=λr=>ltK (qY r) k) (l:=l)
  have:l[t]? =(l.takeWhile λr=>ltK (qY r) k)[t]? :=by
   conv=>lhs;rw[<-a]
   exact zN c
  rw[<-this,zi h]
 have:=qr b
 exact(List.all_takeWhile (p:=λr=>ltK (qY r) k) (l:=l)) |> qa.1 |> λq=>q _ this
theorem KFa{l:List RW}(f:yJ l){k:Ky}(h:isH l k=true):∃j:atR l k<l.length,qY l[atR l k]=k:=by
 obtain⟨r,i,rfl⟩:=wo.1 h
 obtain⟨t,b,rfl⟩:=List.mem_iff_getElem.1 i
 have:atR l (qY l[t])=t:=w4a (Nat.le_of_lt b) (λu c a=>Vu f c b a) (λu c a=>by
  by_cases e:u=t
  ·subst e;exact Vs _
  ·exact via (Vu f b c (by omega)))
 have d:atR l (qY l[t])<l.length:=by rw[this];exact b
 refine⟨d,?_⟩
 have g:l[atR l (qY l[t])]=l[t]:=by congr 1
 rw[g]
theorem z2b(h:List Ob)(s:Setup)(a:SA)(E:SIn h s a)(x c e:AV)(u:AV.one x=true)(m:AV.one c=true)(l:List RW)(k:Ky)(g:SlOf h e 27 (l.map je))(y:yJ l)(C:l.length<1099511627776)(F:∀r∈l,r.2.length<1099511627776):
  ACalls Tryz.prog 38 [.ag (jK s a x c e),.ag (jl k)] h λr h'=>r= .tup [if isH l k then .ag (je (QU l k)) else .ag (vf Wk.1++[.v (.slice none 0 0)]),bl (isH l k)]/\h'=h:=by
 have H:=E.ones
 have w:=g.one
 have p:∀M,qc (h++M) e=some (l.map je):=λM=>(g.app M).rows
 refine zj Tryz.f38 [.cell 4 45,.tmp 5] 24 rfl rfl rfl rfl rfl rfl (by decide) (⟨_,_,⟨rfl,rfl⟩,.refl⟩) λB=>?_
 simp only[go_sem,H,w,u,m,jl]
 refine zh (KEa _ e l k (g.app _) y C) ?_
 rintro _ D ⟨rfl,rfl⟩
 cases q:isH l k
 ·simp only[go_sem,qv]
  refine zn ?_<;>(simp only[go_sem,Wk,vf]<;>try rfl)
 ·obtain⟨b,G⟩:=KFa y q
  have I:QU l k=l[atR l k]:=WMa b (λt z n=>j4b z n) G
  have d:=Zq je b
  have j:((atR l k:Nat):Int)<l.length:=by omega
  have f:=F _ (zx b)
  rw[<-I] at d f
  have o:∀M,eOf (h++M) e=some 27:=λM=>(g.app M).at (i:=atR l k) (by simpa using b)
  simp only[go_sem,qv,w,p,o,d,j,zb,Int.toNat_natCast,zf,je,vf,List.cons_append,List.nil_append]
  refine zh (j3b _ (QU l k) f) ?_
  rintro _ D ⟨rfl,A⟩
  rw[A]
  simp only[go_sem,je,vf,List.cons_append,List.nil_append]
  refine Xq ?_ ?_
  ·simp only[go_sem,je,vf,List.cons_append,List.nil_append]
  ·simp only[je,vf,List.cons_append,List.nil_append,AV.lt,qy,V4,if_true,Bool.and_self]
theorem QYa:WeakV (.ag (vf Wk.1++[.v (.slice none 0 0)])) (.ag (je Wk)):= .ag (WeakL.app _ (.cons (.nil 2) (.refl [])))
theorem QZa{l:List RW}{k:Ky}(h:isH l k=false):QU l k=Wk:=by
 unfold QU
 have:l.find? (λr=>qY r==k)=none:=by
  rw[List.find?_eq_none]
  intro r a b
  rw[wo.2 ⟨r,a,by simpa using b⟩] at h
  cases h
 rw[this]
 rfl
theorem KGa(h:List Ob)(s:Setup)(a:SA)(o:SIn h s a)(x c d:AV)(e:AV.one x=true)(b:AV.one c=true)(l:List RW)(k:Ky)(f:SlOf h d 27 (l.map je))(g:yJ l)(n:l.length<1099511627776)(j:∀r∈l,r.2.length<1099511627776):
  ACalls Tryz.prog 38 [.ag (jK s a x c d),.ag (jl k)] h λr h'=>r= .tup [.ag (je (QU l k)),bl (isH l k)]/\h'=h:=
 wN (z2b h s a o x c d e b l k f g n j) λr h' ⟨m,i⟩=>by
  subst m
  refine⟨_,⟨rfl,i⟩,?_⟩
  cases q:isH l k
  ·rw[QZa q]
   exact .two QYa (.refl _)
  ·exact .refl _
