import Derived.Test.YtigdlmpjijhpaaaGreatKA
import Derived.Test.YtigdlmpjijhpaaaGreatK43
import Derived.Test.YtigdlmpjijhpaaaGreatK38
import Derived.Test.YtigdlmpjijhpaaaGreatK40
import Derived.Test.YtigdlmpjijhpaaaGreatK20
import Derived.Test.YtigdlmpjijhpaaaGreatK23
import Derived.Test.YtigdlmpjijhpaaaGreatK37
set_option linter.all false
namespace Go.Proofs.YtigdlmpjijhpaaaGreat.Ax
open Go Go.Proofs
set_option maxRecDepth 100000
theorem vja(l:List Int):((l.map qn).all λr=>r.length==1 && r.all AV.one)=true:=by
 rw[qb];intro r a;obtain⟨s,_,rfl⟩:=zr.1 a;rfl
theorem y9a{h:List Ob}{d:Nat}{a o:Ob}{l:List Int}{st:Nat}(b:d<h.length):((h++[a,.row 3 1 (l.map qn) st]).set d o)[h.length+1]? =some (.row 3 1 (l.map qn) st):=by
 rw[zc (by omega),zG (k:=1) rfl];rfl
theorem vka{h:List Ob}{d:Nat}{b o e a:Ob}(c:d<h.length):((h++[b,e]).set d o).set (h.length+1) a=h.set d o++[b,a]:=by
 rw[qr _ _ c,zU _ _ (by rw[zN];omega),zN,Nat.add_sub_cancel_left];rfl
theorem vla{h:List Ob}{a:Ob}{l:List Int}{st:Nat}:New h 1 (.tl (h.length+1) st) (l.map qn) [a,.row 3 1 (l.map qn) st]:=OwnS.new (h0:=h) (ty:=3) (.inr ⟨h.length+1,st,by omega,rfl,by rw[zG (k:=1) rfl];rfl⟩) (zo _)
section
variable {h:List Ob} {d:Nat} {s:Setup} {a:SA} {x c:AV} {rows segs bytes:AV} {q:Cm}
def yJ(b:Bk)(q:Cm):Bool:=kz q && !jv b.shut q.week
theorem z5b(g:h[d]? =some (.box 154 (qO s a x c 0 rows segs bytes q)))(b:Bk)(E:SlOf h c 1 (b.shut.map qn))(A:b.shut.length<1048576)(G:b.shut.Pairwise (· < ·)):
  ACalls Tryz.prog 81 [.ptr d 0] h λr h'=>r= .tup []/\∃L y,h'=h.set d (.box 154 (qO s a x y (if yJ b q then 0 else 212) rows segs bytes q))++L/\NoRes L/\
   (yJ b q=false->y=c/\L=[])/\(yJ b q=true->New h 1 y ((Xm q.week b.shut).map qn) L):=by
 have hex:∃r h',(r=AV.tup []/\∃L y,h'=h.set d (.box 154 (qO s a x y (if yJ b q then 0 else 212) rows segs bytes q))++L/\NoRes L/\
   (yJ b q=false->y=c/\L=[])/\(yJ b q=true->New h 1 y ((Xm q.week b.shut).map qn) L))/\ResK h h':=by
  cases R:yJ b q
  ·exact⟨_,_,⟨rfl,[],c,rfl,jh,λ_=>⟨rfl,rfl⟩,λq=>by cases q⟩,by rw[zH];exact qi g rfl⟩
  ·exact⟨_,_,⟨rfl,[],.sl 1 _,rfl,jh,λq=>(by cases q),λ_ _ _=>⟨rfl,λ_=>rfl⟩⟩,by rw[zH];exact qi g rfl⟩
 refine zi Tryz.f81 [] 39 rfl rfl rfl rfl rfl rfl (by decide) (hex) λB=>?_
 simp only[go_sem,g]
 refine zg (Kqa g) ?_
 rintro _ P ⟨rfl,I⟩
 rw[I]
 cases D:kz q
 ·have t:yJ b q=false:=by unfold yJ;rw[D];rfl
  simp only[go_sem]
  refine zg (Xj g false 212) ?_
  rintro _ J ⟨rfl,rfl⟩
  rw[show jK 0 false 212=212 from rfl]
  simp only[go_sem]
  exact⟨_,rfl,.inl ⟨rfl,[],c,by rw[t,zH];rfl,jh,λ_=>⟨rfl,rfl⟩,λq=>by rw[t] at q;cases q⟩⟩
 ·simp only[go_sem,g]
  refine zg (Yc g b.shut E A q.week) ?_
  rintro _ J ⟨rfl,K⟩
  rw[K,show b.shut.any (q.week== ·)=jv b.shut q.week from rfl]
  have p:yJ b q= !jv b.shut q.week:=by unfold yJ;rw[D];rfl
  simp only[go_sem]
  refine zg (Xj g (!jv b.shut q.week) 212) ?_
  rintro _ Q ⟨rfl,rfl⟩
  rw[p]
  cases C:jv b.shut q.week
  ·rw[show jK 0 (!false) 212=0 from rfl,qS g]
   simp only[go_sem]
   refine zL rfl [.res] 1 [(0,0,[]),(1,0,[]),(2,0,[]),(3,0,[]),(4,0,[]),(7,0,[]),(8,0,[]),(9,0,[]),(10,0,[]),(5,0,[]),(11,0,[]),(6,0,[11]),(12,0,[]),(13,0,[]),(14,0,[]),(15,0,[]),(16,0,[]),(17,0,[])] rfl (by decide) (by decide) ?_
   have f:∀M,(h++M)[d]? =some (.box 154 (qO s a x c 0 rows segs bytes q)):=λM=>ze g
   have i:=(zd.1 g).1
   have u:q.week∉b.shut:=λH=>by rw[QQ.2 H] at C;cases C
   have e:=w6a u G
   simp only[go_sem,f]
   refine zg (V7 _ c (b.shut.map qn) (E.app _) (by rw[zb];omega) (vja _)) ?_
   rintro _ O (⟨m,w,rfl⟩|⟨w,rfl⟩)
   ·have F:b.shut=[]:=by simpa using m
    rw[w]
    rw[F] at e⊢
    have j:∀M o,((h++M).set d o)[d]? =some o:=λM o=>zm (f M)
    simp only[go_sem,f,j]
    refine zg (KIa _ (h.length+1) 0 [q.week] (y9a (l:=[q.week]) i) (by simp) (by simp)) ?_
    rintro _ N ⟨rfl,z⟩
    rw[z,vka i,show([q.week].mergeSort λx y=>decide (x<=y))=Xm q.week [] from e]
    simp only[go_sem]
    exact⟨_,rfl,.inl ⟨rfl,_,.tl (h.length+1) 0,rfl,zl rfl (zD rfl),λq=>(by cases q),λ_=>vla⟩⟩
   ·rw[w]
    have n:((b.shut.map qn).length+1)*9<=140737488355328:=by rw[zb];omega
    have k:b.shut.map qn++[[AV.v (Value.int IntKind.i64 q.week)]]=(b.shut++[q.week]).map qn:=by rw[zw];rfl
    have j:∀M o,((h++M).set d o)[d]? =some o:=λM o=>zm (f M)
    simp only[go_sem,f,n,k,j]
    refine zg (KIa _ (h.length+1) 2 (b.shut++[q.week]) (y9a (l:=b.shut++[q.week]) i) (by simp;omega) (by simp)) ?_
    rintro _ N ⟨rfl,z⟩
    rw[z,vka i,e]
    simp only[go_sem]
    exact⟨_,rfl,.inl ⟨rfl,_,.tl (h.length+1) 2,rfl,zl rfl (zD rfl),λq=>(by cases q),λ_=>vla⟩⟩
  ·rw[show jK 0 (!true) 212=212 from rfl]
   simp only[go_sem]
   exact⟨_,rfl,.inl ⟨rfl,[],c,by rw[zH],jh,λ_=>⟨rfl,rfl⟩,λq=>by cases q⟩⟩
end
theorem Q1a{h h':List Ob}{id st e:Nat}{y:AV}{xs:List (List AV)}(b:y= .tl id st∨∃n,y= .vw (.tl id st) 1 0 n)(a:h[id]? =h'[id]?)(k:SlOf h y e xs):SlOf h' y e xs:=by
 obtain⟨k1,k2⟩:=k
 rcases b with rfl|⟨n,rfl⟩
 ·refine⟨?_,λq=>?_⟩
  ·rw[qZ] at k1 ⊢;rw[<-a];exact k1
  ·have:=k2 q
   rw[jP] at this ⊢;rw[<-a];exact this
 ·refine⟨?_,λq=>?_⟩
  ·rw[vD,qZ,jP] at k1 ⊢;rw[<-a];exact k1
  ·have:=k2 q
   rw[Q3,jP] at this ⊢;rw[<-a];exact this
theorem vma{h:List Ob}{a b:Ob}{y:AV}{st:Nat}{xs:List (List AV)}(c:y= .tl (h.length+1) st∨∃n,y= .vw (.tl (h.length+1) st) 1 0 n)(k:SlOf ((h++[a])++[b]) y 1 xs):New h 1 y xs [a,b]:=λd e=>by
 refine Q1a c ?_ k
 rw[zt,show [a]++[b]=[a,b] from rfl,zG (k:=1) rfl, <-e,zG (k:=1) rfl]
section
variable {h:List Ob} {d:Nat} {s:Setup} {a:SA} {x c:AV} {rows segs bytes:AV} {q:Cm}
theorem z6b(z:h[d]? =some (.box 154 (qO s a x c 0 rows segs bytes q)))(b:Bk)(D:SlOf h c 1 (b.shut.map qn))(v:b.shut.length<1048576):
  ACalls Tryz.prog 82 [.ptr d 0] h λr h'=>r= .tup []/\∃L y,h'=h.set d (.box 154 (qO s a x y (if jv b.shut q.week then 0 else 212) rows segs bytes q))++L/\NoRes L/\
   (jv b.shut q.week=false->y=c)/\(jv b.shut q.week=true->New h 1 y ((b.shut.filter λw=> !(w==q.week)).map qn) L):=by
 have hex:∃r h',(r=AV.tup []/\∃L y,h'=h.set d (.box 154 (qO s a x y (if jv b.shut q.week then 0 else 212) rows segs bytes q))++L/\NoRes L/\
   (jv b.shut q.week=false->y=c)/\(jv b.shut q.week=true->New h 1 y ((b.shut.filter λw=> !(w==q.week)).map qn) L))/\ResK h h':=by
  cases R:jv b.shut q.week
  ·exact⟨_,_,⟨rfl,[],c,rfl,jh,λ_=>rfl,λq=>by cases q⟩,by rw[zH];exact qi z rfl⟩
  ·exact⟨_,_,⟨rfl,[],.sl 1 _,rfl,jh,λq=>(by cases q),λ_ _ _=>⟨rfl,λ_=>rfl⟩⟩,by rw[zH];exact qi z rfl⟩
 have m:=(zd.1 z).1
 have p:∀M,(h++M)[d]? =some (.box 154 (qO s a x c 0 rows segs bytes q)):=λM=>ze z
 refine zi Tryz.f82 [] 23 rfl rfl rfl rfl rfl rfl (by decide) (hex) λB=>?_
 simp only[go_sem,p]
 obtain⟨H,i⟩:∃H,H=h++[Ob.box 151 [.ptr d 0]]:=⟨_,rfl⟩
 have t:H.length=h.length+1:=by rw[i];simp
 have g:H[d]? =some (.box 154 (qO s a x c 0 rows segs bytes q)):=by rw[i];exact p _
 have l:H[h.length]? =some (.box 151 [.ptr d 0]):=by rw[i,zM rfl];rfl
 rw[<-i]
 have j:∀M,(H++M)[h.length]? =some (.box 151 [.ptr d 0]):=λM=>ze l
 have f:∀M,(H++M)[d]? =some (.box 154 (qO s a x c 0 rows segs bytes q)):=λM=>ze g
 refine zL rfl [] 0 [(0,0,[]),(1,0,[]),(2,0,[]),(3,0,[]),(4,0,[]),(5,0,[]),(6,0,[]),(7,0,[0]),(8,0,[])] rfl (by decide) (by decide) ?_
 simp only[go_sem,g,l,j,f]
 refine zg (Yc g b.shut (by rw[i];exact D.app _) v q.week) ?_
 rintro _ P ⟨rfl,J⟩
 rw[J,show b.shut.any (q.week== ·)=jv b.shut q.week from rfl]
 simp only[go_sem,l]
 refine zg (Xj g (jv b.shut q.week) 212) ?_
 rintro _ Q ⟨rfl,rfl⟩
 cases A:jv b.shut q.week
 ·rw[show jK 0 false 212=212 from rfl]
  simp only[go_sem]
  refine⟨_,rfl,.inl ⟨rfl,[.box 151 [.ptr d 0]],c,?_,zD rfl,λ_=>rfl,λq=>by cases q⟩⟩
  rw[i,qr _ _ m]
 ·rw[show jK 0 true 212=0 from rfl,qS g]
  simp only[go_sem]
  refine zL rfl [] 0 [(7,0,[]),(0,0,[]),(1,0,[]),(2,0,[]),(3,0,[]),(4,0,[]),(5,0,[]),(6,0,[0]),(8,0,[0]),(9,0,[]),(10,0,[]),(11,0,[]),(12,0,[])] rfl (by decide) (by decide) ?_
  simp only[go_sem,g,l,j,f]
  refine zg (V7 _ c (b.shut.map qn) (by rw[i];exact D.app _) (by rw[zb];omega) (vja _)) ?_
  rintro _ N (⟨u,C,rfl⟩|⟨C,rfl⟩)
  ·exfalso
   have E:b.shut=[]:=by simpa using u
   rw[E] at A
   cases A
  ·rw[C]
   simp only[go_sem,f,j]
   refine zg (WOa _ H.length 1 b.shut 168 [.ptr h.length 0] (λn=>n==q.week) (by rw[zM rfl];rfl) v (λe O o L=>zRb (by rw[zU _ _ (zo _),zt];exact f _) h.length (by rw[zU _ _ (zo _),zt];exact j _) e)) ?_
   rintro r K ⟨l2,I,F,k⟩
   have G:K=H++[xfa l2 1]:=by rw[I,zU _ _ (zo _),Nat.sub_self];rfl
   rw[G] at k⊢
   rcases F with rfl|⟨n,rfl⟩
   ·simp only[go_sem,f,j]
    refine⟨_,rfl,.inl ⟨rfl,[.box 151 [.ptr d 0],xfa l2 1],(.tl H.length 1),?_,zl rfl (zD rfl),λq=>q.elim,λ_=>vma (st:=1) (.inl (by rw[t])) (by rw[i] at k;rw[i];exact k)⟩⟩
    rw[i,zt,qr _ _ m];rfl
   ·simp only[go_sem,f,j]
    refine⟨_,rfl,.inl ⟨rfl,[.box 151 [.ptr d 0],xfa l2 1],(.vw (.tl H.length 1) 1 0 n),?_,zl rfl (zD rfl),λq=>q.elim,λ_=>vma (st:=1) (.inr ⟨n,by rw[t]⟩) (by rw[i] at k;rw[i];exact k)⟩⟩
    rw[i,zt,qr _ _ m];rfl
end
open Go.RowKit
abbrev nl:AV:= .v (.slice none 0 0)
abbrev BX(b:Bk):AV:= .sl 11 (b.evs.map evC)
abbrev BC(b:Bk):AV:= .sl 1 (b.shut.map qn)
def SlN(y:AV)(e:Nat)(rows:List (List AV)):Prop:=y= .sl e rows∨(y=nl/\rows=[])
theorem WQa{n:Nat}{s:Setup}{a:SA}{x c rows segs bytes:AV}{err:Int}{q:Cm}:qy n (qO s a x c err rows segs bytes q)=(a.w.lt n && (a.e.lt n && (a.c.lt n && (a.g.lt n && (a.r.lt n && (a.t.lt n && (x.lt n && (c.lt n && (rows.lt n && (segs.lt n && (bytes.lt n && true))))))))))):=rfl
structure AL (n:Nat) (a:SA):Prop where
 w:a.w.lt n=true
 e:a.e.lt n=true
 c:a.c.lt n=true
 g:a.g.lt n=true
 r:a.r.lt n=true
 t:a.t.lt n=true
theorem Qf{n:Nat}{s:Setup}{a:SA}{x c rows segs bytes:AV}{err:Int}{q:Cm}:qy n (qO s a x c err rows segs bytes q)=true↔AL n a/\x.lt n=true/\c.lt n=true/\rows.lt n=true/\segs.lt n=true/\bytes.lt n=true:=by
 rw[WQa]
 simp only[zq,and_true]
 exact⟨λ⟨g,f,e,b,d,i,h⟩=>⟨⟨g,f,e,b,d,i⟩,h⟩,λ⟨⟨g,f,e,b,d,i⟩,h⟩=>⟨g,f,e,b,d,i,h⟩⟩
theorem YJa{n:Nat}(b:Bk):(BX b).lt n=true:=vE b.evs
theorem Xo{n:Nat}{cs b a:List AV}{z:AV}(e:cs=b++z::a)(h:qy n cs=true):qy n b=true/\qy n a=true:=by
 rw[e,Kz,zq,qy,zq] at h
 exact⟨h.1,h.2.2⟩
section
variable {h:List Ob} {d:Nat} {s:Setup} {a:SA} {q:Cm} {b:Bk}
def qna(f:FuncId)(h:List Ob)(d:Nat)(s:Setup)(a:SA)(b:Bk)(q:Cm):Prop:=
 ACalls Tryz.prog f [.ptr d 0] h λr h'=>r= .tup []/\∃(e g c:AV) (i:Cm),h'=h.set d (.box 154 (qO s a (BX (doP s b q).1) (BC (doP s b q).1) (doP s b q).2.err e g c i))/\
  SlN e 27 ((doP s b q).2.rows.map q9)/\SlN g 5 ((doP s b q).2.segs.map xT)/\SlN c 1 ((doP s b q).2.bytes.map xv)
theorem xga(f:Fx):KDa s b f (BX b)=BX (XT s b f).1:=by
 unfold KDa XT
 split<;>rfl
theorem KJa(f:Fx):BC (XT s b f).1=BC b:=by
 unfold XT
 split<;>rfl
theorem kmb(e:h[d]? =some (.box 154 (qO s a (BX b) (BC b) 0 nl nl nl q)))(k:SIn h s a)(i:BkI s b)(g:b.shut.length<=53)(j:q.kind=2):qna 78 h d s a b q:=by
 have f:doP s b q=XT s b q.fx:=by unfold doP;rw[if_neg (by omega),if_pos j]
 have:=i.few
 have c0:=Zh e (λn c=>by
  rw[Qf] at c⊢
  rw[xga]
  exact⟨c.1,YJa _,c.2.2⟩) (j6b e k b ⟨rfl,λ_=>rfl⟩ (by omega) ⟨rfl,λ_=>rfl⟩ (by omega) rfl)
 refine c0.mono ?_
 rintro r h' ⟨rfl,rfl⟩
 rw[f,xga, <-KJa (s:=s) (b:=b) q.fx]
 exact⟨rfl,nl,nl,nl,q,rfl,.inr ⟨rfl,rfl⟩,.inr ⟨rfl,rfl⟩,.inr ⟨rfl,rfl⟩⟩
theorem WRa(e:h[d]? =some (.box 154 (qO s a (BX b) (BC b) 0 nl nl nl q)))(k:SIn h s a)(i:BkI s b)(g:b.shut.length<=53)(j:q.kind=1):qna 77 h d s a b q:=by
 have f:doP s b q=XT s b ⟨1,q.fx.ev⟩:=by unfold doP;rw[if_pos j]
 have:=i.few
 have c0:=Zh e (λn c=>by
  rw[Qf] at c⊢
  rw[xga]
  exact⟨c.1,YJa _,c.2.2⟩) (WNa e k b ⟨rfl,λ_=>rfl⟩ (by omega) ⟨rfl,λ_=>rfl⟩ (by omega) rfl)
 refine c0.mono ?_
 rintro r h' ⟨rfl,rfl⟩
 rw[f,xga, <-KJa (s:=s) (b:=b) ⟨1,q.fx.ev⟩]
 exact⟨rfl,nl,nl,nl,WMa q,rfl,.inr ⟨rfl,rfl⟩,.inr ⟨rfl,rfl⟩,.inr ⟨rfl,rfl⟩⟩
theorem j8b(c:h[d]? =some (.box 154 (qO s a (BX b) (BC b) 0 nl nl nl q)))(k:SIn h s a)(f:SFit s)(i:BkI s b)(e:q.kind=4):qna 80 h d s a b q:=by
 have g:doP s b q=(b,if jf s q then⟨0,[],(qA s b.evs q.worker).1,[]⟩ else wt 80):=by unfold doP;rw[if_neg (by omega),if_neg (by omega),if_neg (by omega),if_pos e]
 have:=i.few
 refine(jUb c k f b.evs ⟨rfl,λ_=>rfl⟩ (by omega)).mono ?_
 rintro r h' ⟨rfl,rfl⟩
 rw[g]
 cases j:jf s q
 ·exact⟨rfl,nl,nl,nl,q,rfl,.inr ⟨rfl,rfl⟩,.inr ⟨rfl,rfl⟩,.inr ⟨rfl,rfl⟩⟩
 ·exact⟨rfl,nl,_,nl,q,rfl,.inr ⟨rfl,rfl⟩,.inl rfl,.inr ⟨rfl,rfl⟩⟩
theorem knb(g:h[d]? =some (.box 154 (qO s a (BX b) (BC b) 0 nl nl nl q)))(k:SIn h s a)(f:SFit s)(i:BkI s b)(l:q.kind=3):qna 79 h d s a b q:=by
 have c:doP s b q=(b,if y6 s 0 q==0 then⟨0,[qm s b.evs q.worker q.week],[],[]⟩ else wt (y6 s 0 q)):=by unfold doP;rw[if_neg (by omega),if_neg (by omega),if_pos l]
 have:=i.few
 have c0:=jVb g k f b.evs ⟨rfl,λ_=>rfl⟩ (by omega)
 obtain⟨E,o⟩:∃E,E=y6 s 0 q:=⟨_,rfl⟩
 rw[<-o] at c0 c
 by_cases h0:E=0
 ·subst h0
  have m:ACalls Tryz.prog 79 [.ptr d 0] h λr h'=>r= .tup []/\∃L y,h'=h.set d (.box 154 ((qO s a (BX b) (BC b) 0 nl nl nl q).take 26++y::(qO s a (BX b) (BC b) 0 nl nl nl q).drop 27))++L/\NoRes L/\New h 27 y [q9 (qm s b.evs q.worker q.week)] L:=c0.mono λr h' q=>by
   obtain⟨rfl,j,L,rfl,e,⟨q,_⟩|⟨_,rfl,rfl⟩⟩:=q
   ·exact absurd rfl q
   ·exact⟨rfl,_,_,rfl,e,OwnS.new (h0:=h) (ty:=45) (.inr ⟨h.length,0,zo _,rfl,by rw[zM rfl];rfl⟩) (zo _)⟩
  refine(wh (by decide) g (λn p=>Xo (z:=nl) rfl p) (λn=>?_) m).mono ?_
  ·exact Zt [qm s b.evs q.worker q.week]
  ·rintro r h' ⟨rfl,rfl⟩
   rw[c]
   exact⟨rfl,_,nl,nl,q,rfl,.inl rfl,.inr ⟨rfl,rfl⟩,.inr ⟨rfl,rfl⟩⟩
 ·refine c0.mono ?_
  rintro r h' ⟨rfl,j,L,rfl,e,⟨_,rfl,rfl⟩|⟨q,_⟩⟩
  ·rw[c,if_neg (by simpa using h0),zH]
   exact⟨rfl,nl,nl,nl,q,rfl,.inr ⟨rfl,rfl⟩,.inr ⟨rfl,rfl⟩,.inr ⟨rfl,rfl⟩⟩
  ·exact absurd q h0
theorem j9b(g:h[d]? =some (.box 154 (qO s a (BX b) (BC b) 0 nl nl nl q)))(i:BkI s b)(l:b.shut.length<=53)(k:q.kind=5):qna 81 h d s a b q:=by
 have e:doP s b q=(if yJ b q then(⟨b.evs,Xm q.week b.shut⟩,wt 0) else(b,wt 212)):=by unfold doP;rw[if_neg (by omega),if_neg (by omega),if_neg (by omega),if_neg (by omega),if_pos k];rfl
 have c0:=z5b g b ⟨rfl,λ_=>rfl⟩ (by omega) i.rise
 cases c:yJ b q
 ·rw[c] at c0 e
  refine c0.mono ?_
  rintro r h' ⟨rfl,L,y,rfl,f,p,_⟩
  obtain⟨rfl,rfl⟩:=p rfl
  rw[e,zH]
  exact⟨rfl,nl,nl,nl,q,rfl,.inr ⟨rfl,rfl⟩,.inr ⟨rfl,rfl⟩,.inr ⟨rfl,rfl⟩⟩
 ·rw[c] at c0 e
  have m:ACalls Tryz.prog 81 [.ptr d 0] h λr h'=>r= .tup []/\∃L y,h'=h.set d (.box 154 ((qO s a (BX b) (BC b) 0 nl nl nl q).take 24++y::(qO s a (BX b) (BC b) 0 nl nl nl q).drop 25))++L/\NoRes L/\New h 1 y ((Xm q.week b.shut).map qn) L:=c0.mono λr h' q=>by
   obtain⟨rfl,L,y,rfl,f,_,j⟩:=q
   exact⟨rfl,L,y,rfl,f,j rfl⟩
  refine(wh (by decide) g (λn o=>Xo (z:=BC b) rfl o) (λn=>wJ _) m).mono ?_
  rintro r h' ⟨rfl,rfl⟩
  rw[e]
  exact⟨rfl,nl,nl,nl,q,rfl,.inr ⟨rfl,rfl⟩,.inr ⟨rfl,rfl⟩,.inr ⟨rfl,rfl⟩⟩
theorem xab(i:h[d]? =some (.box 154 (qO s a (BX b) (BC b) 0 nl nl nl q)))(m:b.shut.length<=53)(l:q.kind=6):qna 82 h d s a b q:=by
 have e:doP s b q=(if jv b.shut q.week then(⟨b.evs,b.shut.filter λw=> !(w==q.week)⟩,wt 0) else(b,wt 212)):=by unfold doP;rw[if_neg (by omega),if_neg (by omega),if_neg (by omega),if_neg (by omega),if_neg (by omega),if_pos l]
 have c0:=z6b i b ⟨rfl,λ_=>rfl⟩ (by omega)
 cases c:jv b.shut q.week
 ·rw[c] at c0 e
  have j:=Zh i (cs:=qO s a (BX b) (BC b) 212 nl nl nl q) (λn f=>by rw[Qf] at f ⊢;exact f) (c0.mono λr h' q=>by
   obtain⟨rfl,L,y,rfl,g,o,_⟩:=q
   have:=o rfl
   subst this
   exact⟨rfl,L,rfl,g⟩)
  refine j.mono ?_
  rintro r h' ⟨rfl,rfl⟩
  rw[e]
  exact⟨rfl,nl,nl,nl,q,rfl,.inr ⟨rfl,rfl⟩,.inr ⟨rfl,rfl⟩,.inr ⟨rfl,rfl⟩⟩
 ·rw[c] at c0 e
  have j:ACalls Tryz.prog 82 [.ptr d 0] h λr h'=>r= .tup []/\∃L y,h'=h.set d (.box 154 ((qO s a (BX b) (BC b) 0 nl nl nl q).take 24++y::(qO s a (BX b) (BC b) 0 nl nl nl q).drop 25))++L/\NoRes L/\New h 1 y ((b.shut.filter λw=> !(w==q.week)).map qn) L:=c0.mono λr h' q=>by
   obtain⟨rfl,L,y,rfl,g,_,k⟩:=q
   exact⟨rfl,L,y,rfl,g,k rfl⟩
  refine(wh (by decide) i (λn f=>Xo (z:=BC b) rfl f) (λn=>wJ _) j).mono ?_
  rintro r h' ⟨rfl,rfl⟩
  rw[e]
  exact⟨rfl,nl,nl,nl,q,rfl,.inr ⟨rfl,rfl⟩,.inr ⟨rfl,rfl⟩,.inr ⟨rfl,rfl⟩⟩
theorem WSa(o:h[d]? =some (.box 154 (qO s a (BX b) (BC b) 0 nl nl nl q)))(k:SIn h s a)(f:SFit s)(i:BkI s b)(u:b.shut.length<=53)(m:s.rates.length<4096)(t:q.kind=7):qna 83 h d s a b q:=by
 have g:doP s b q=(b,if jv b.shut q.week then⟨0,xj s b q.week,[],(j5 (xj s b q.week)).1⟩ else wt 212):=by unfold doP;rw[if_neg (by omega),if_neg (by omega),if_neg (by omega),if_neg (by omega),if_neg (by omega),if_neg (by omega),if_pos t]
 have:=i.few
 have c0:=KGa o k f b ⟨rfl,λ_=>rfl⟩ (by omega) ⟨rfl,λ_=>rfl⟩ (by omega) m
 cases e:jv b.shut q.week
 ·rw[e] at c0 g
  have p:ACalls Tryz.prog 83 [.ptr d 0] h λr h'=>r= .tup []/\∃L y,h'=h.set d (.box 154 ((qO s a (BX b) (BC b) 212 nl nl nl q).take 26++y::(qO s a (BX b) (BC b) 212 nl nl nl q).drop 27))++L/\NoRes L/\New h 27 y [] L:=c0.mono λr h' q=>by
   obtain⟨rfl,L,y,rfl,l,c⟩:=q
   exact⟨rfl,L,y,rfl,l,c⟩
  refine(wh (by decide) o (λn c=>Xo (z:=nl) (cs:=qO s a (BX b) (BC b) 212 nl nl nl q) rfl c) (λn=>rfl) p).mono ?_
  rintro r h' ⟨rfl,rfl⟩
  rw[g]
  exact⟨rfl,_,nl,nl,q,rfl,.inl rfl,.inr ⟨rfl,rfl⟩,.inr ⟨rfl,rfl⟩⟩
 ·rw[e] at c0 g
  obtain⟨z,j⟩:∃z,z=AV.sl 1 ((j5 (xj s b q.week)).1.map xv):=⟨_,rfl⟩
  have p:ACalls Tryz.prog 83 [.ptr d 0] h λr h'=>r= .tup []/\∃L y,h'=h.set d (.box 154 ((qO s a (BX b) (BC b) 0 nl nl z q).take 26++y::(qO s a (BX b) (BC b) 0 nl nl z q).drop 27))++L/\NoRes L/\New h 27 y ((xj s b q.week).map q9) L:=c0.mono λr h' q=>by
   obtain⟨rfl,L,y,rfl,l,c⟩:=q
   exact⟨rfl,L,y,by rw[j];rfl,l,c⟩
  refine(wh (by decide) o (λn c=>Xo (z:=nl) (cs:=qO s a (BX b) (BC b) 0 nl nl z q) rfl (by
   rw[Qf] at c⊢
   exact⟨c.1,c.2.1,c.2.2.1,c.2.2.2.1,c.2.2.2.2.1,by rw[j];exact Qd _⟩)) (λn=>Zt _) p).mono ?_
  rintro r h' ⟨rfl,rfl⟩
  rw[g]
  exact⟨rfl,_,nl,z,q,rfl,.inl rfl,.inr ⟨rfl,rfl⟩,.inl j⟩
theorem xbb(c:h[d]? =some (.box 154 (qO s a (BX b) (BC b) 0 nl nl nl q)))(e:q.kind=8):qna 84 h d s a b q:=by
 have f:doP s b q=(b,wt 0):=by unfold doP;rw[if_neg (by omega),if_neg (by omega),if_neg (by omega),if_neg (by omega),if_neg (by omega),if_neg (by omega),if_neg (by omega),if_pos e]
 unfold qna
 rw[f]
 refine zi Tryz.f84 [] 2 rfl rfl rfl rfl rfl rfl (by decide) (⟨_,_,⟨rfl,nl,nl,nl,q,rfl,.inr ⟨rfl,rfl⟩,.inr ⟨rfl,rfl⟩,.inr ⟨rfl,rfl⟩⟩,qi c rfl⟩) λB=>?_
 simp only[go_sem]
 exact⟨_,rfl,.inl ⟨rfl,nl,nl,nl,q,(qS c).symm,.inr ⟨rfl,rfl⟩,.inr ⟨rfl,rfl⟩,.inr ⟨rfl,rfl⟩⟩⟩
end
abbrev ym(q:Cm):List AV:=[i64 q.kind,i64 q.fx.op,i64 q.fx.ev.id,i64 q.fx.ev.worker,i64 q.fx.ev.at_,i64 q.fx.ev.kind,i64 q.fx.ev.from_,i64 q.fx.ev.to_,i64 q.fx.ev.element,i64 q.fx.ev.units,i64 q.fx.ev.class_,i64 q.fx.ev.gear,i64 q.fx.ev.code,i64 q.worker,i64 q.week,i64 q.last]
abbrev BV(s:Setup)(b:Bk):AV:= .ag (wg s (frA s) (BX b) (BC b))
abbrev xN(w:An):List AV:=[i64 w.err,.sl 27 (w.rows.map q9),.sl 5 (w.segs.map xT),.sl 1 (w.bytes.map xv)]
theorem Vu{s:Setup}{b:Bk}(i:BkI s b):b.shut.length<=53:=by
 have d:b.shut.Nodup:=i.rise.imp λ{a b} h q=>by omega
 have:=QW (b:=Jp 0 52) d λw c=>by rw[Kw];exact i.rng w c
 have e:(Jp 0 52).length=53:=by rw[Jp,zb,js];rfl
 omega
theorem Q2a{P:Program}{x:AV}{n:FuncId}{ar:List AV}{h:List Ob}{k:AV->List Ob->Prop}(e:x= .fn (.func n) [] [])(g: @qxa P n ar h ⟨k⟩): @YA P x ar h ⟨k⟩:=by
 subst e
 rw[xNa,List.nil_append,zH]
 exact g
theorem kob(h:List Ob)(s:Setup)(f:SFit s)(b:Bk)(i:BkI s b)(q:Cm)(C:s.rates.length<4096):
  ACalls Tryz.prog 29 [BV s b,.ag (ym q)] h λr h'=>(∃m j l:AV,r= .tup [BV s (doP s b q).1,.ag [i64 (doP s b q).2.err,m,j,l]]/\SlN m 27 ((doP s b q).2.rows.map q9)/\SlN j 5 ((doP s b q).2.segs.map xT)/\SlN l 1 ((doP s b q).2.bytes.map xv))/\h'=h:=by
 have hex:∃r h',((∃m j l:AV,r=AV.tup [BV s (doP s b q).1,.ag [i64 (doP s b q).2.err,m,j,l]]/\SlN m 27 ((doP s b q).2.rows.map q9)/\SlN j 5 ((doP s b q).2.segs.map xT)/\SlN l 1 ((doP s b q).2.bytes.map xv))/\h'=h)/\ResK h h':=⟨_,_,⟨⟨_,_,_,rfl,.inl rfl,.inl rfl,.inl rfl⟩,rfl⟩,.refl⟩
 have z:=(yI (h:=h) s).ones
 refine zi Tryz.f29 [.cell 4 63,.cell 5 71] 38 rfl rfl rfl rfl rfl rfl (by decide) (hex) λB=>?_
 simp only[go_sem,z]
 refine ways (λe=>?_) (λe=>?_)
 ·have a:q.kind≠1/\q.kind≠2/\q.kind≠3/\q.kind≠4/\q.kind≠5/\q.kind≠6/\q.kind≠7/\q.kind≠8:=by
   simp only[Bool.not_eq_true',zY,beq_eq_false_iff_ne] at e
   omega
  have I:doP s b q=(b,wt 240):=by unfold doP;rw[if_neg (by omega),if_neg (by omega),if_neg (by omega),if_neg (by omega),if_neg (by omega),if_neg (by omega),if_neg (by omega),if_neg (by omega)]
  rw[I]
  simp only[go_sem,z]
  refine⟨.tup [BV s b,.ag [i64 240,nl,nl,nl]],by simp only[go_sem],.inr ⟨h,_,rfl,rfl,?_,.refl,⟨nl,nl,nl,rfl,.inr ⟨rfl,rfl⟩,.inr ⟨rfl,rfl⟩,.inr ⟨rfl,rfl⟩⟩,rfl⟩⟩
  simp only[frA,AV.lt,qy,Qp,Qq,Zf,wJ,vE,Bool.and_self]
 ·have a:q.kind=1∨q.kind=2∨q.kind=3∨q.kind=4∨q.kind=5∨q.kind=6∨q.kind=7∨q.kind=8:=by
   simp only[Bool.not_eq_false',Bool.or_eq_true,beq_iff_eq] at e
   omega
  have c:=Vu i
  have u:∃n,(if 1=q.kind then AV.fn (.func 77) [] [] else if 2=q.kind then AV.fn (.func 78) [] [] else if 3=q.kind then AV.fn (.func 79) [] [] else if 4=q.kind then AV.fn (.func 80) [] [] else if 5=q.kind then AV.fn (.func 81) [] [] else if 6=q.kind then AV.fn (.func 82) [] [] else if 7=q.kind then AV.fn (.func 83) [] [] else if 8=q.kind then AV.fn (.func 84) [] [] else AV.v Value.nilFunc)=AV.fn (.func n) [] []/\∀(H:List Ob) (d:Nat),H[d]? =some (.box 154 (qO s (frA s) (BX b) (BC b) 0 nl nl nl q))->qna n H d s (frA s) b q:=by
   rcases a with a|a|a|a|a|a|a|a
   ·exact⟨_,by rw[a];rfl,λH d g=>WRa g (yI s) i c a⟩
   ·exact⟨_,by rw[a];rfl,λH d g=>kmb g (yI s) i c a⟩
   ·exact⟨_,by rw[a];rfl,λH d g=>knb g (yI s) f i a⟩
   ·exact⟨_,by rw[a];rfl,λH d g=>j8b g (yI s) f i a⟩
   ·exact⟨_,by rw[a];rfl,λH d g=>j9b g i c a⟩
   ·exact⟨_,by rw[a];rfl,λH d g=>xab g c a⟩
   ·exact⟨_,by rw[a];rfl,λH d g=>WSa g (yI s) f i c C a⟩
   ·exact⟨_,by rw[a];rfl,λH d g=>xbb g a⟩
  obtain⟨n,E,told⟩:=u
  simp only[go_sem]
  refine Q2a E ?_
  refine zg (told _ _ (by rw[zG (k:=5) rfl];rfl)) ?_
  rintro _ K ⟨rfl,m,j,l,L,F,y,A,x⟩
  rw[F]
  have t:AV.one m=true:=by rcases y with rfl|⟨rfl,_⟩<;>rfl
  have o:AV.one j=true:=by rcases A with rfl|⟨rfl,_⟩<;>rfl
  have p:AV.one l=true:=by rcases x with rfl|⟨rfl,_⟩<;>rfl
  obtain⟨b',D⟩:∃b',b'=(doP s b q).1:=⟨_,rfl⟩
  obtain⟨w,G⟩:∃w,w=(doP s b q).2:=⟨_,rfl⟩
  rw[<-G] at y A x⊢
  rw[<-D]
  clear e E told
  have J:m.lt h.length=true:=by
   rcases y with rfl|⟨rfl,_⟩
   ·exact Zt _
   ·rfl
  have l2:j.lt h.length=true:=by
   rcases A with rfl|⟨rfl,_⟩
   ·exact zDa _
   ·rfl
  have l3:l.lt h.length=true:=by
   rcases x with rfl|⟨rfl,_⟩
   ·exact Qd _
   ·rfl
  refine zL rfl [] 0 [(0,0,[]),(1,0,[]),(2,0,[]),(4,0,[]),(5,0,[]),(6,0,[]),(3,0,[]),(7,0,[]),(8,0,[7]),(9,0,[])] rfl (by decide) (by decide) ?_
  simp only[go_sem,z,t,o,p]
  refine⟨.tup [BV s b',.ag [i64 w.err,m,j,l]],by simp only[go_sem,z,t,o,p],.inr ⟨h,_,rfl,rfl,?_,.refl,⟨m,j,l,rfl,y,A,x⟩,rfl⟩⟩
  simp only[frA,AV.lt,qy,Qp,Qq,Zf,wJ,vE,J,l2,l3,Bool.and_self]
theorem SlN.weak{y:AV}{e:Nat}{rows:List (List AV)}(k:SlN y e rows):WeakV y (.sl e rows):=by
 rcases k with rfl|⟨rfl,rfl⟩
 ·exact .refl _
 ·exact .nil e
theorem WeakV.ag4{z a f b b' d g:AV}(s:WeakV a f)(o:WeakV b b')(n:WeakV d g):WeakV (.ag [z,a,b,d]) (.ag [z,f,b',g]):=λc v ⟨vs,e,u,k,i,a0,x,r,q,a1,y,m,p,a2,w,l,h,a3,j⟩=>⟨vs,e,u,k,i,a0,x,r,q,s c x a1,y,m,p,o c y a2,w,l,h,n c w a3,j⟩
theorem cDo(h:List Ob)(s:Setup)(f:SFit s)(b:Bk)(i:BkI s b)(q:Cm)(a:s.rates.length<4096):
  ACalls Tryz.prog 29 [BV s b,.ag (ym q)] h λr h'=>r= .tup [BV s (doP s b q).1,.ag (xN (doP s b q).2)]/\h'=h:=
 wP (kob h s f b i q a) λr h' ⟨⟨j,g,e,d,k1,k2,k3⟩,c⟩=>by
  subst d
  exact⟨_,⟨rfl,c⟩,.two (.refl _) (.ag4 k1.weak k2.weak k3.weak)⟩
abbrev zB:Ob:= .box 63 (wg zS zA jF jF)
structure AllI (h h':List Ob) (s:Setup) (b:Bk) (y:AV) (rows:List (List AV)):Prop where
 pre:Pre h h'
 b0:h'[h.length]? =some (.box 63 (wg s (frA s) (BX b) (BC b)))
 b1:h'[h.length+1]? =some zB
 own:OwnS h h' 71 4 y rows
theorem AllI.app{h h':List Ob}{s:Setup}{b:Bk}{y:AV}{rows:List (List AV)}(k:AllI h h' s b y rows){M:List Ob}(a:NoRes M):AllI h (h'++M) s b y rows:=
 ⟨k.pre.app a,ze k.b0,ze k.b1,k.own.app M⟩
theorem AllI.put{h h':List Ob}{s:Setup}{b:Bk}{y:AV}{rows:List (List AV)}(k:AllI h h' s b y rows)(b':Bk):AllI h (h'.set h.length (.box 63 (wg s (frA s) (BX b') (BC b')))) s b' y rows:=
 ⟨k.pre.set (by omega) rfl,zm k.b0,by rw[zc (by omega)];exact k.b1,k.own.setB k.b0⟩
theorem AllI.row{h h':List Ob}{s:Setup}{b:Bk}{y:AV}{rows:List (List AV)}(k:AllI h h' s b y rows){id ty e st:Nat}{xs:List (List AV)}(hid:h.length<=id)(a:h'[id]? =some (.row ty e xs st)){o:Ob}(d:o.isRes=false){y':AV}{rows':List (List AV)}(c:OwnS h (h'.set id o) 71 4 y' rows'):AllI h (h'.set id o) s b y' rows':=
 ⟨k.pre.set hid d,xq (h0:=h) k.b0 a,xq (h0:=h) k.b1 a,c⟩
theorem Q3a{s:Setup}{b:Bk}{l:List Cm}{n:Nat}(a:n<l.length):vC s b (l.take (n+1))=((doP s (vC s b (l.take n)).1 l[n]).1,(vC s b (l.take n)).2++[(doP s (vC s b (l.take n)).1 l[n]).2]):=by
 rw[show l.take (n+1)=l.take n++[l[n]] from(zE a).symm,k7a]
 rfl
theorem Zaa{l:List Cm}{i:Nat}(h:i<l.length):(l.map ym)[i]? =some (ym l[i]):=by rw[zz,zj h];rfl
theorem xha{n:Nat}:∀l:List An,qM n (l.map xN)=true
 | []=>rfl
 | a::l=>by
   rw[List.map_cons,qM,xha l]
   simp only[AV.lt,qy,Zt,zDa,Qd,Bool.and_self]
theorem xcb{n:Nat}{s:Setup}{b:Bk}:(BV s b).lt n=true:=by
 simp only[frA,AV.lt,qy,Qp,Qq,Zf,wJ,vE,Bool.and_self]
theorem xdb(h:List Ob)(s:Setup)(f:SFit s)(b:Bk)(i:BkI s b)(x:AV)(l:List Cm)(hx:SlOf h x 16 (l.map ym))(hl:l.length<1048576)(β:s.rates.length<4096):
  ACalls Tryz.prog 28 [BV s b,x] h λr h'=>∃L y,h'=h++L/\NoRes L/\r= .tup [BV s (vC s b l).1,y]/\New h 4 y ((vC s b l).2.map xN) L:=by
 have hex:∃r h',(∃L y,h'=h++L/\NoRes L/\r=AV.tup [BV s (vC s b l).1,y]/\New h 4 y ((vC s b l).2.map xN) L)/\ResK h h':=⟨_,_,⟨[],.sl 4 _,rfl,jh,rfl,λ_ _=>⟨rfl,λ_=>rfl⟩⟩,resK_app⟩
 have E:=(yI (h:=h) s).ones
 have Y:∀M,qa (h++M) x=some (l.map ym):=λM=>(hx.app M).rows
 refine zi Tryz.f28 [.cell 4 63,.tmp 5] 31 rfl rfl rfl rfl rfl rfl (by decide) (hex) λB=>?_
 simp only[go_sem,E,Y,zb]
 refine zI (by decide) (λm T H=>∃(n:Nat) (y:AV),n<=l.length/\AllI h H s (vC s b (l.take n)).1 y ((vC s b (l.take n)).2.map xN)/\T 2= .ptr h.length 0/\T 4= .ptr (h.length+1) 0/\T 6=y/\T 11=x/\T 12=i64 l.length/\T 13=i64 n/\m=l.length - n) l.length
  ⟨0,nl,by omega,⟨⟨_,rfl,zl rfl (zD rfl)⟩,by rw[zM rfl];rfl,by rw[zG (k:=1) rfl];rfl,.inl ⟨rfl,rfl⟩⟩,by simp only[go_sem],by simp only[go_sem],by(simp only[go_sem]<;>rfl),by simp only[go_sem],by simp only[go_sem],by(simp only[go_sem]<;>rfl),rfl⟩ ?_
 rintro m T H ⟨n,y,hn,c,t2,t4,t6,v,u,j,rfl⟩
 have J:=c.pre.sl hx
 simp only[go_sem,u,j]
 refine ways (λe=>?_) (λe=>?_)
 ·have C:=dlt e
  have t:=Zaa C
  have Q:(n:Int)<l.length:=by omega
  have g:=Q3a (s:=s) (b:=b) C
  have X:=J.rows
  have P:=J.at (i:=n) (by simpa using C)
  have N:=k5a (l.take n) i
  obtain⟨b',O⟩:∃b',b'=(vC s b (l.take n)).1:=⟨_,rfl⟩
  obtain⟨A,hA⟩:∃A,A=(vC s b (l.take n)).2:=⟨_,rfl⟩
  rw[<-O, <-hA] at g
  rw[<-O] at N c
  rw[<-hA] at c
  obtain⟨q,hq⟩:∃q,q=l[n]:=⟨_,rfl⟩
  rw[<-hq] at t g
  have D:=c.b0
  have a:∀M,(H++M)[h.length]? =some (.box 63 (wg s (frA s) (BX b') (BC b'))):=λM=>ze D
  simp only[go_sem,t2,v,j,t,Q,X,P,a,E,zb,Int.toNat_natCast,zh]
  refine zg (cDo _ s f b' N q β) ?_
  rintro _ h1 ⟨rfl,e1⟩
  rw[e1]
  obtain⟨b2,U⟩:∃b2,b2=(doP s b' q).1:=⟨_,rfl⟩
  obtain⟨w,hw⟩:∃w,w=(doP s b' q).2:=⟨_,rfl⟩
  rw[<-U, <-hw] at g⊢
  simp only[go_sem,t2,E,a]
  refine zL rfl [.res] 1 [(1,0,[]),(0,0,[]),(2,0,[]),(3,0,[]),(4,0,[0]),(5,0,[]),(6,0,[])] rfl (by decide) (by decide) ?_
  rcases c.own with⟨rfl,G⟩|⟨id,st,u1,rfl,u3⟩
  ·simp only[go_sem,t2,t6,j,E,a]
   refine⟨l.length - (n+1),by omega,n+1,.tl (H.length+4) 0,by omega,?_,t4,rfl,v,u,qf (by omega) rfl,rfl⟩
   rw[g]
   have d:=(c.app (M:=[.box 79 (ym q),.box 63 (wg s (frA s) (BX b2) (BC b2)),.box 71 (xN w),.row 71 4 [xN w] 0,.row 71 4 [xN w] 0]) (zl rfl (zl rfl (zl rfl (zl rfl (zD rfl)))))).put b2
   refine⟨d.pre,d.b0,d.b1,OwnS.setB (.inr ⟨_,0,?_,rfl,?_⟩) (a _)⟩
   ·have:=c.pre.len;omega
   ·rw[zw,G,zG (k:=4) rfl];rfl
  ·have p:∀M,(H++M)[id]? =some (.row 71 4 (A.map xN) st):=λM=>ze u3
   have ο:A.length<=n:=by rw[hA,k6a,zJ];omega
   have I:((A.map xN).length+1)*81<=140737488355328:=by rw[zb];omega
   have K:∀M o',((H++M).set id o')[h.length]? =some (.box 63 (wg s (frA s) (BX b') (BC b'))):=λM o'=>xq (h0:=h) (a M) (p M)
   have κ:=(zd.1 u3).1
   have Z:∀(o1 R o3 o4 o':Ob),((H++[o1,R,o3,o4]).set id o')[H.length+1]? =some R:=λo1 R o3 o4 o'=>by
    rw[zc (by omega),zG (k:=1) rfl];rfl
   simp only[go_sem,t2,t6,j,E,a,p,I,K,Z]
   refine⟨l.length - (n+1),by omega,n+1,.tl id (st+1),by omega,?_,t4,rfl,v,u,qf (by omega) rfl,rfl⟩
   rw[g]
   have d:=c.app (M:=[.box 79 (ym q),.box 63 (wg s (frA s) (BX b2) (BC b2)),.box 71 (xN w),.row 71 4 [xN w] 0]) (zl rfl (zl rfl (zl rfl (zD rfl))))
   have α:=d.row u1 (p _) (o:= .row 71 4 ((A++[w]).map xN) (st+1)) rfl (.inr ⟨id,st+1,u1,rfl,zm (p _)⟩)
   have F:=α.put b2
   rw[zw] at F⊢
   exact F
 ·have ξ:=j9 e
  have S:n=l.length:=by omega
  subst S
  rw[zP] at c
  have D:=c.b0
  have z:=c.b1
  simp only[go_sem,t2,t4,t6,D,z,E]
  have W:=c.own.rows.one
  have hk:=OwnS.setB (o:= .box 63 (wg s (frA s) (BX (vC s b l).1) (BC (vC s b l).1))) c.own z
  have hp:Pre h (H.set (h.length+1) (.box 63 (wg s (frA s) (BX (vC s b l).1) (BC (vC s b l).1)))):=c.pre.set (by omega) rfl
  have V:(H.set (h.length+1) (.box 63 (wg s (frA s) (BX (vC s b l).1) (BC (vC s b l).1))))[h.length+1]? =some (.box 63 (wg s (frA s) (BX (vC s b l).1) (BC (vC s b l).1))):=zm z
  obtain⟨L,hL,hN⟩:=hp
  refine⟨.tup [BV s (vC s b l).1,y],?_,.inl ⟨L,y,hL,hN,rfl,?_⟩⟩
  ·simp only[go_sem,V,t4,W]
  ·rw[hL] at hk
   exact hk.new (zo _)
theorem qoa{P:Program}{f:FuncId}{ar:List AV}{h:List Ob}{u:AV}{e:Nat}{rows:List (List AV)}(n:0<e)(j:u.lt h.length=true)(z:qM h.length rows=true)(c:ACalls P f ar h λr h'=>∃L x,h'=h++L/\NoRes L/\r= .tup [u,x]/\New h e x rows L):ACalls P f ar h λr h'=>r= .tup [u,.sl e rows]/\h'=h:=by
 refine⟨c.1,⟨_,_,⟨rfl,rfl⟩,.refl⟩,λφ l B w g vs m hB b=>?_⟩
 refine(c.2.2 φ l B w g vs m hB b).mono λD w' ⟨v,r,h',g',p,⟨L,x,t,_,y,n1⟩,_,i,k⟩=>?_
 subst t y
 rw[jW l] at i k
 have a:(fill φ h).length=h.length:=jo
 obtain⟨us,rfl,s,E,q,a1,o,C,A,a2,d⟩:=k
 have d:C=[]:=d
 subst d A
 refine⟨_,_,h,g',p,⟨rfl,rfl⟩,.refl,i.drop rfl (by have:=m.ids;exact this),us,rfl,?_⟩
 rw[q]
 exact⟨s,_,rfl,AR.less (kU w' g' (fill φ h) L) _ _ (by rw[jo];exact j) a1,o,[],rfl,Jg i.ok n a2 (n1 _ a) (λid hid=>by rw[a];exact n1.root id hid) (by rw[a];exact z),rfl⟩
theorem kCb(h:List Ob)(s:Setup)(f:SFit s)(b:Bk)(i:BkI s b)(x:AV)(l:List Cm)(c:SlOf h x 16 (l.map ym))(d:l.length<1048576)(a:s.rates.length<4096):
  ACalls Tryz.prog 28 [BV s b,x] h λr h'=>r= .tup [BV s (vC s b l).1,.sl 4 ((vC s b l).2.map xN)]/\h'=h:=
 qoa (by decide) xcb (xha _) (xdb h s f b i x l c d a)
def WeakL(l l':List AV):Prop:=∀(c:Ctx) (vs:List Value),ARs c l vs->ARs c l' vs
theorem WeakL.refl(l:List AV):WeakL l l:=λ_ _ h=>h
theorem WeakL.cons{a b:AV}{l l':List AV}(d:WeakV a b)(f:WeakL l l'):WeakL (a::l) (b::l'):=λc vs ⟨u,r,e,k1,k2⟩=>⟨u,r,e,d c u k1,f c r k2⟩
theorem WeakL.app{l l':List AV}:∀(k:List AV),WeakL l l'->WeakL (k++l) (k++l')
 | [],h=>h
 | _::k,h=> .cons (.refl _) (WeakL.app k h)
theorem WeakV.ag{l l':List AV}(h:WeakL l l'):WeakV (.ag l) (.ag l'):=λc v ⟨vs,e,k⟩=>⟨vs,e,h c _ k⟩
def xeb:AV:= .ag (wg zS zA jF jF)
theorem xfb(h:List Ob)(s:Setup)(a:SA)(k:SIn h s a)(f:SFit s):
  ACalls Tryz.prog 26 [je s a] h λr h'=>r= .tup [if z6 s then BV s Kx else xeb,i64 (if z6 s then 0 else 70)]/\h'=h:=
 wP (kkb h s a k f) λr h' ⟨c,b⟩=>by
  subst c
  refine⟨_,⟨rfl,b⟩,?_⟩
  unfold QOa
  cases z6 s
  ·exact .refl _
  ·refine .two (.ag ?_) (.refl _)
   exact WeakL.app ((wg s (frA s) nl nl).take 23) (.cons (.nil 11) (.cons (.nil 1) (.refl [])))
end Go.Proofs.YtigdlmpjijhpaaaGreat.Ax
namespace Go.Proofs.YtigdlmpjijhpaaaGreat.Ax
open Go Go.Proofs
set_option maxRecDepth 100000
theorem xgb{s:Setup}(h:zoa s=true):SFew s:=by
 simp only[zoa,decide_eq_true_eq] at h
 obtain⟨e,d,c,a,b,f⟩:=h
 exact⟨by omega,by omega,by omega,by omega,by omega,by omega⟩
theorem qtb{s:Setup}(h:zoa s=true):s.rates.length<4096:=by
 simp only[zoa,decide_eq_true_eq] at h
 omega
def s2:Setup:=⟨1,[],(1,1),[((1,1),(1,1))],[(1,1)],[(1,1)],0,1,36000,0,86400,0,28800,43200,144000,0,0,[1500],0,0,0,[]⟩
def ev0:Ev:=⟨0,0,0,0,0,0,0,0,0,0,0⟩
def qpa:Ev:=⟨1,0,0,1,0,0,0,0,0,0,0⟩
def xhb:Ev:=⟨2,0,3600,2,0,0,0,0,0,0,0⟩
def fx0:Fx:=⟨0,ev0⟩
def cm0(k:Int):Cm:=⟨k,fx0,0,0,0⟩
def l2:List Cm:=[⟨1,⟨0,qpa⟩,0,0,0⟩,⟨2,⟨1,xhb⟩,0,0,0⟩,⟨1,⟨0,qpa⟩,0,0,0⟩,cm0 5,⟨2,⟨2,qpa⟩,0,0,0⟩,cm0 3,cm0 4,cm0 7,cm0 5,cm0 9,cm0 6,cm0 7,cm0 8]
def a2(n:Nat):SA:=⟨.v (.slice none 0 0),.tl (n+2) 0,.tl (n+3) 0,.tl (n+4) 0,.tl (n+5) 0,.v (.slice none 0 0)⟩
theorem kpb(h:List Ob):SIn h zS zA:=⟨ZS,ZS,ZS,ZS,ZS,ZS⟩
theorem kqb:SFit zS:=⟨by simp[Fit,zS],by simp[jq,Fit,zS],by simp[jq,Fit,zS],by simp[jq,Fit,zS],by simp[jq,Fit,zS],by simp[jq,Fit,zS],by simp[zS],by simp[zS],by simp[zS],by simp[zS],by simp[zS],by simp[zS]⟩
theorem okz:z6 zS=false:=by kernel_rfl
end Go.Proofs.YtigdlmpjijhpaaaGreat.Ax
namespace Go.Proofs.YtigdlmpjijhpaaaGreat.Ax
open Go Go.RowKit Go.ChangeShapes Go.WideShapes
def YKa(r:List Int):Cm:=⟨wS r 0,⟨wS r 1,⟨wS r 2,wS r 3,wS r 4,wS r 5,wS r 6,wS r 7,wS r 8,wS r 9,wS r 10,wS r 11,wS r 12⟩⟩,wS r 13,wS r 14,wS r 15⟩
theorem z8b:∀ {r:List Int},r.length=16->r.map i64=ym (YKa r)
 | [_,_,_,_,_,_,_,_,_,_,_,_,_,_,_,_],_=>rfl
def InCms(w:World)(v:Value):Prop:=∃(x:AV) (l:List Cm),AR (c0 w) x v/\SlOf [] x 16 (l.map ym)
section
variable {H:Type} {enc:TypeId × Value->H} {w:World} {base:Nat} {held:Bool}
theorem cms_in{b:Nat}{v:Value}{x:DataW H × List MemPlace}(h:DataW.trod enc Tryz.prog w base (λ_=>true) held b 61 [v]=some x):InCms w v:=by
 obtain⟨a,rows,j,c,d⟩:=KKa Tryz.underlying61 (n:=5) (by kernel_rfl) h
 have e:Tryz.prog.cellsOf 79=16:=by kernel_rfl
 rw[e] at c d
 rw[Js (f:=YKa) (g:=ym) z8b λr i=>(d r i).1] at c
 exact⟨a,_,j,c⟩
end
end Go.Proofs.YtigdlmpjijhpaaaGreat.Ax
namespace Go.Proofs.YtigdlmpjijhpaaaGreat.Ax
open Go Go.Proofs
set_option maxRecDepth 100000
theorem kDb:((70:Int) != 0)=true:=rfl
abbrev bkO(s:Setup)(b:Bk):Ob:= .box 63 (wg s (frA s) (BX b) (BC b))
structure HasB (h H:List Ob) (s:Setup) (a:SA) (b:Bk):Prop where
 pre:Pre h H
 st:H[h.length]? =some (.box 30 (qg s a))
 bk:H[h.length+1]? =some (bkO s b)
open Go.RowKit
def KLa(w:Way):List Int:=[w.1,w.2.1,w.2.2]
def KMa(e:Elt):List Int:=[e.1.1,e.1.2,e.2.1,e.2.2]
def KB(p:qx):List Int:=[p.1,p.2]
def WP(s:Setup):List Int:=
 [s.places,s.ways.length]++s.ways.flatMap KLa++[s.pace.1,s.pace.2,s.elements.length]++s.elements.flatMap KMa++[(s.classes.length:Int)]++s.classes.flatMap KB++[(s.gears.length:Int)]++s.gears.flatMap KB
  ++[s.allow,s.unit,s.cap,s.paidBreak,s.autoAfter,s.autoBreak,s.dayReg,s.dayOver,s.weekReg,s.nightFrom,s.nightTo]++[(s.rates.length:Int)]++s.rates++[s.diff,s.least,s.fault,s.tiers.length]++s.tiers.flatMap KB
theorem Vw{α:Type}(f:α->List Int){l:List α}{n:Nat}{A R:List Int}(h:n<l.length)(a:R=A++(l.take n).flatMap f):A++(l.take (n+1)).flatMap f=R++f l[n]:=by
 rw[show l.take (n+1)=l.take n++[l[n]] from(zE h).symm,List.flatMap_append,a]
 simp
structure NumI (h H:List Ob) (s:Setup) (l:List Int) (st b:Nat):Prop where
 pre:Pre h H
 box:H[h.length]? =some (.box 30 (qg s (frA s)))
 row:H[h.length+1]? =some (.row 3 1 (l.map qn) st)
 len:l.length=b
theorem NumI.add0{h H:List Ob}{s:Setup}{l l' new:List Int}{st b b':Nat}(k:NumI h H s l st b)(d:l'=l++new)(c:b'=b+new.length){R:List (List AV)}(a:R=l.map qn++new.map qn):NumI h (H.set (h.length+1) (.row 3 1 R (st+1))) s l' (st+1) b':=by
 subst d;subst c;subst a
 exact⟨k.pre.set (by omega) rfl,xq (h0:=h) k.box k.row,by rw[zm k.row,zw],by rw[zf,k.len]⟩
theorem NumI.app{h H M:List Ob}{s:Setup}{l:List Int}{st b:Nat}(k:NumI h H s l st b)(a:NoRes M):NumI h (H++M) s l st b:=
 ⟨k.pre.app a,ze k.box,ze k.row,k.len⟩
theorem xH{α:Type}(f:α->List AV){l:List α}{n:Nat}(h:n<l.length):(l.map f)[n]? =some (f l[n]):=by rw[zz,zj h];rfl
set_option maxHeartbeats 4000000 in
theorem xib(h:List Ob)(s:Setup)(f:SFew s):
  ACalls Tryz.prog 178 [je s (frA s)] h λr h'=>∃L,h'=h++L/\NoRes L/\New h 1 r ((WP s).map qn) L:=by
 have hex:∃r h',(∃L,h'=h++L/\NoRes L/\New h 1 r ((WP s).map qn) L)/\ResK h h':=
  ⟨.sl 1 _,_,⟨[],rfl,jh,λ_ _=>⟨rfl,λ_=>rfl⟩⟩,resK_app⟩
 have ho:=(yI (h:=h) s).ones
 have ζ:∀H,qa H (frA s).w=some (s.ways.map JE):=λ_=>rfl
 have Z:∀H,qa H (frA s).e=some (s.elements.map JF):=λ_=>rfl
 have ε:∀H,qa H (frA s).c=some (s.classes.map jH):=λ_=>rfl
 have W:∀H,qa H (frA s).g=some (s.gears.map jH):=λ_=>rfl
 have ι:∀H,qa H (frA s).r=some (s.rates.map qn):=λ_=>rfl
 have X:∀H,qa H (frA s).t=some (s.tiers.map jH):=λ_=>rfl
 have ο:∀H,eOf H (frA s).w=some 3:=λ_=>rfl
 have ρ:∀H,eOf H (frA s).e=some 4:=λ_=>rfl
 have κ:∀H,eOf H (frA s).c=some 2:=λ_=>rfl
 have σ:∀H,eOf H (frA s).g=some 2:=λ_=>rfl
 have ν:∀H,eOf H (frA s).t=some 2:=λ_=>rfl
 obtain⟨f1,f2,f3,f4,f5,f6⟩:=f
 refine zi Tryz.f178 [.tmp 2] 208 rfl rfl rfl rfl rfl rfl (by decide) (hex) λB=>?_
 simp only[go_sem,ho,ζ,zb]
 refine zI (by decide) (λm T H=>∃(n st:Nat) (l:List Int),n<=s.ways.length/\l=[s.places,(s.ways.length:Int)]++(s.ways.take n).flatMap KLa/\NumI h H s l st (2+3*n)/\T 1= .ptr h.length 0/\T 3= .tl (h.length+1) st/\T 4=i64 n/\m=s.ways.length - n) s.ways.length
  ⟨0,0,_,by omega,(zH _).symm,⟨⟨_,rfl,zl rfl (zD rfl)⟩,by rw[zM rfl];rfl,by rw[zG (k:=1) rfl];rfl,rfl⟩,by simp only[go_sem],by simp only[go_sem],by(simp only[go_sem]<;>rfl),rfl⟩ ?_
 rintro m T H ⟨n,st,l0,N,α,k,t1,t3,x,rfl⟩
 have j:=k.box;have y:=k.row;have i:=k.len
 have d:∀M,(H++M)[h.length]? =_:=λM=>ze j
 have b:∀M,(H++M)[h.length+1]? =_:=λM=>ze y
 simp only[go_sem,t1,x,j,ζ,zb]
 refine ways (λe=>?_) (λe=>?_)
 ·have p:=dlt e
  have u:(n:Int)<s.ways.length:=by omega
  have q:=xH JE p
  have a:(l0.length+3)*9<=140737488355328:=by omega
  have I:=Vw KLa p α
  simp only[go_sem]
  refine zL rfl [.res] 1 [(0,0,[]),(1,0,[]),(3,0,[]),(7,0,[]),(9,0,[]),(13,0,[]),(15,0,[]),(2,0,[]),(4,0,[]),(5,0,[]),(6,0,[]),(8,0,[]),(10,0,[]),(11,0,[]),(12,0,[]),(14,0,[]),(16,0,[]),(17,0,[]),(18,0,[]),(19,0,[]),(20,0,[]),(21,0,[])] rfl (by decide) (by decide) ?_
  simp only[go_sem,t1,t3,x,j,d,b,a,ζ,ο,q,JE,u,zb,Int.toNat_natCast,zh]
  exact⟨s.ways.length - (n+1),by omega,n+1,st+1,_,by omega,I.symm.trans (by simp),(k.app (zD rfl)).add0 (new:=KLa s.ways[n]) rfl (by show _=_+3;omega) rfl,rfl,qf (by omega) rfl,rfl⟩
 ·have z:=j9 e
  have v:n=s.ways.length:=by omega
  subst v
  rw[zP] at α
  have a:(l0.length+3)*9<=140737488355328:=by omega
  simp only[go_sem,t1,t3,j,d,b,a,Z,zb]
  refine zI (by decide) (λm T H=>∃(n st:Nat) (l:List Int),n<=s.elements.length/\l=(l0++[s.pace.1,s.pace.2,(s.elements.length:Int)])++(s.elements.take n).flatMap KMa/\NumI h H s l st (5+3*s.ways.length+4*n)/\T 1= .ptr h.length 0/\T 3= .tl (h.length+1) st/\T 5=i64 n/\m=s.elements.length - n) s.elements.length
   ⟨0,st+1,_,by omega,(zH _).symm,(k.app (zD rfl)).add0 (new:=[s.pace.1,s.pace.2,(s.elements.length:Int)]) rfl (by show _=_+3;omega) rfl,by simp only[go_sem,t1],by simp only[go_sem],by(simp only[go_sem]<;>rfl),rfl⟩ ?_
  clear t1 t3 x j y d b i N z e a k
  rintro m T H ⟨n,st,l1,N,V,k,t1,t3,x,rfl⟩
  have j:=k.box;have y:=k.row;have i:=k.len
  have d:∀M,(H++M)[h.length]? =_:=λM=>ze j
  have b:∀M,(H++M)[h.length+1]? =_:=λM=>ze y
  simp only[go_sem,t1,x,j,Z,zb]
  refine ways (λe=>?_) (λe=>?_)
  ·have p:=dlt e
   have u:(n:Int)<s.elements.length:=by omega
   have q:=xH JF p
   have a:(l1.length+4)*9<=140737488355328:=by omega
   have I:=Vw KMa p V
   simp only[go_sem]
   simp only[go_sem,t1,t3,x,j,d,b,a,Z,ρ,q,JF,u,zb,Int.toNat_natCast,zh]
   exact⟨s.elements.length - (n+1),by omega,n+1,st+1,_,by omega,I.symm.trans (by simp),(k.app (zl rfl (zD rfl))).add0 (new:=KMa s.elements[n]) rfl (by show _=_+4;omega) rfl,rfl,qf (by omega) rfl,rfl⟩
  ·have z:=j9 e
   have v:n=s.elements.length:=by omega
   subst v
   rw[zP] at V
   have a:(l1.length+1)*9<=140737488355328:=by omega
   simp only[go_sem,t1,t3,j,d,b,a,ε,zb]
   refine zI (by decide) (λm T H=>∃(n st:Nat) (l:List Int),n<=s.classes.length/\l=(l1++[(s.classes.length:Int)])++(s.classes.take n).flatMap KB/\NumI h H s l st (6+3*s.ways.length+4*s.elements.length+2*n)/\T 1= .ptr h.length 0/\T 3= .tl (h.length+1) st/\T 7=i64 n/\m=s.classes.length - n) s.classes.length
    ⟨0,st+1,_,by omega,(zH _).symm,(k.app (zD rfl)).add0 (new:=[(s.classes.length:Int)]) rfl (by show _=_+1;omega) rfl,by simp only[go_sem,t1],by simp only[go_sem],by(simp only[go_sem]<;>rfl),rfl⟩ ?_
   clear t1 t3 x j y d b i N z e a k
   rintro m T H ⟨n,st,l2,N,Q,k,t1,t3,x,rfl⟩
   have j:=k.box;have y:=k.row;have i:=k.len
   have d:∀M,(H++M)[h.length]? =_:=λM=>ze j
   have b:∀M,(H++M)[h.length+1]? =_:=λM=>ze y
   simp only[go_sem,t1,x,j,ε,zb]
   refine ways (λe=>?_) (λe=>?_)
   ·have p:=dlt e
    have u:(n:Int)<s.classes.length:=by omega
    have q:=xH jH p
    have a:(l2.length+2)*9<=140737488355328:=by omega
    have I:=Vw KB p Q
    simp only[go_sem]
    refine zL rfl [.res] 1 [(0,0,[]),(1,0,[]),(3,0,[]),(7,0,[]),(9,0,[]),(2,0,[]),(4,0,[]),(5,0,[]),(6,0,[]),(8,0,[]),(10,0,[]),(11,0,[]),(12,0,[]),(13,0,[]),(14,0,[]),(15,0,[])] rfl (by decide) (by decide) ?_
    simp only[go_sem,t1,t3,x,j,d,b,a,ε,κ,q,jH,u,zb,Int.toNat_natCast,zh]
    exact⟨s.classes.length - (n+1),by omega,n+1,st+1,_,by omega,I.symm.trans (by simp),(k.app (zD rfl)).add0 (new:=KB s.classes[n]) rfl (by show _=_+2;omega) rfl,rfl,qf (by omega) rfl,rfl⟩
   ·have z:=j9 e
    have v:n=s.classes.length:=by omega
    subst v
    rw[zP] at Q
    have a:(l2.length+1)*9<=140737488355328:=by omega
    simp only[go_sem,t1,t3,j,d,b,a,W,zb]
    refine zI (by decide) (λm T H=>∃(n st:Nat) (l:List Int),n<=s.gears.length/\l=(l2++[(s.gears.length:Int)])++(s.gears.take n).flatMap KB/\NumI h H s l st (7+3*s.ways.length+4*s.elements.length+2*s.classes.length+2*n)/\T 1= .ptr h.length 0/\T 3= .tl (h.length+1) st/\T 8=i64 n/\m=s.gears.length - n) s.gears.length
     ⟨0,st+1,_,by omega,(zH _).symm,(k.app (zD rfl)).add0 (new:=[(s.gears.length:Int)]) rfl (by show _=_+1;omega) rfl,by simp only[go_sem,t1],by simp only[go_sem],by(simp only[go_sem]<;>rfl),rfl⟩ ?_
    clear t1 t3 x j y d b i N z e a k
    rintro m T H ⟨n,st,l3,N,S,k,t1,t3,x,rfl⟩
    have j:=k.box;have y:=k.row;have i:=k.len
    have d:∀M,(H++M)[h.length]? =_:=λM=>ze j
    have b:∀M,(H++M)[h.length+1]? =_:=λM=>ze y
    simp only[go_sem,t1,x,j,W,zb]
    refine ways (λe=>?_) (λe=>?_)
    ·have p:=dlt e
     have u:(n:Int)<s.gears.length:=by omega
     have q:=xH jH p
     have a:(l3.length+2)*9<=140737488355328:=by omega
     have I:=Vw KB p S
     simp only[go_sem]
     refine zL rfl [.res] 1 [(0,0,[]),(1,0,[]),(3,0,[]),(7,0,[]),(9,0,[]),(2,0,[]),(4,0,[]),(5,0,[]),(6,0,[]),(8,0,[]),(10,0,[]),(11,0,[]),(12,0,[]),(13,0,[]),(14,0,[]),(15,0,[])] rfl (by decide) (by decide) ?_
     simp only[go_sem,t1,t3,x,j,d,b,a,W,σ,q,jH,u,zb,Int.toNat_natCast,zh]
     exact⟨s.gears.length - (n+1),by omega,n+1,st+1,_,by omega,I.symm.trans (by simp),(k.app (zD rfl)).add0 (new:=KB s.gears[n]) rfl (by show _=_+2;omega) rfl,rfl,qf (by omega) rfl,rfl⟩
    ·have z:=j9 e
     have v:n=s.gears.length:=by omega
     subst v
     rw[zP] at S
     have a:(l3.length+11)*9<=140737488355328:=by omega
     simp only[go_sem,t1,t3,j,d,b,a,zb]
     have k1:=(k.app (M:=[.row 3 1 ([s.allow,s.unit,s.cap,s.paidBreak,s.autoAfter,s.autoBreak,s.dayReg,s.dayOver,s.weekReg,s.nightFrom,s.nightTo].map qn) 0]) (zD rfl)).add0 (new:=[s.allow,s.unit,s.cap,s.paidBreak,s.autoAfter,s.autoBreak,s.dayReg,s.dayOver,s.weekReg,s.nightFrom,s.nightTo]) rfl rfl rfl
     clear j y d b i N z e a k x
     obtain⟨A,Y⟩:∃A,A=(H++[Ob.row 3 1 ([s.allow,s.unit,s.cap,s.paidBreak,s.autoAfter,s.autoBreak,s.dayReg,s.dayOver,s.weekReg,s.nightFrom,s.nightTo].map qn) 0]).set (h.length+1) (.row 3 1 (l3.map qn++[s.allow,s.unit,s.cap,s.paidBreak,s.autoAfter,s.autoBreak,s.dayReg,s.dayOver,s.weekReg,s.nightFrom,s.nightTo].map qn) (st+1)):=⟨_,rfl⟩
     rw[<-Y] at k1
     simp only[List.map_cons,List.map_nil,qn] at Y
     rw[<-Y]
     obtain⟨G,U⟩:∃G,G=l3++[s.allow,s.unit,s.cap,s.paidBreak,s.autoAfter,s.autoBreak,s.dayReg,s.dayOver,s.weekReg,s.nightFrom,s.nightTo]:=⟨_,rfl⟩
     rw[<-U] at k1
     have ξ:(G.map qn)=l3.map qn++[[i64 s.allow],[i64 s.unit],[i64 s.cap],[i64 s.paidBreak],[i64 s.autoAfter],[i64 s.autoBreak],[i64 s.dayReg],[i64 s.dayOver],[i64 s.weekReg],[i64 s.nightFrom],[i64 s.nightTo]]:=by rw[U,zw];rfl
     have j:=k1.box;have y:=k1.row;have i:=k1.len
     have d:∀M,(A++M)[h.length]? =_:=λM=>ze j
     have b:∀M,(A++M)[h.length+1]? =_:=λM=>ze y
     have δ:∀M o,((A++M).set (h.length+1) o)[h.length]? =_:=λM o=>xq (h0:=h) (d M) (b M)
     have γ:∀M o,((A++M).set (h.length+1) o)[h.length+1]? =some o:=λM o=>zm (b M)
     have η:G.length=_:=k1.len
     simp only[List.length_cons,List.length_nil] at η
     have a:(G.length+1)*9<=140737488355328:=by omega
     have D:(G.length+1+s.rates.length)*9<=140737488355328:=by omega
     have F:(G.length+(s.rates.length+1)+4)*9<=140737488355328:=by omega
     have O:=y3a s.rates
     have C:∀M o o',(((A++M).set (h.length+1) o).set (h.length+1) o')[h.length]? =some (.box 30 (qg s (frA s))):=λM o o'=>by rw[zc (by omega)];exact δ M o
     have E:∀M o o',(((A++M).set (h.length+1) o).set (h.length+1) o')[h.length+1]? =some o':=λM o o'=>zm (γ M o)
     have P:∀M o o' J,((((A++M).set (h.length+1) o).set (h.length+1) o')++J)[h.length]? =_:=λM o o' J=>ze (C M o o')
     have K:∀M o o' J,((((A++M).set (h.length+1) o).set (h.length+1) o')++J)[h.length+1]? =some o':=λM o o' J=>ze (E M o o')
     have θ:∀o1 o o' J,((((A++[o1]).set (h.length+1) o).set (h.length+1) o')++J)[A.length+1]? =J[0]? :=λo1 o o' J=>zM (by simp)
     refine zL rfl [.res] 1 [(0,0,[]),(1,0,[]),(6,0,[]),(2,0,[]),(3,0,[]),(7,0,[]),(4,0,[]),(5,0,[7]),(8,0,[]),(9,0,[])] rfl (by decide) (by decide) ?_
     simp only[go_sem,t1,t3,j,d,b,δ,γ,C,E,P,K,θ,a,D,F,O,ι,X,zb,zf,List.length_cons]
     have k2:=(k1.app (M:=[.row 3 1 ([(s.rates.length:Int)].map qn) 0]) (zD rfl)).add0 (new:=[(s.rates.length:Int)]) rfl rfl rfl
     have k3:=k2.add0 (new:=s.rates) (R:=G.map qn++[i64 s.rates.length]::s.rates.map qn) rfl rfl (by rw[zw,zt];rfl)
     refine zI (by decide) (λm T H=>∃(n st:Nat) (l:List Int),n<=s.tiers.length/\l=(G++[(s.rates.length:Int)]++s.rates++[s.diff,s.least,s.fault,(s.tiers.length:Int)])++(s.tiers.take n).flatMap KB/\NumI h H s l st (23+3*s.ways.length+4*s.elements.length+2*s.classes.length+2*s.gears.length+s.rates.length+2*n)/\T 1= .ptr h.length 0/\T 3= .tl (h.length+1) st/\T 9=i64 n/\m=s.tiers.length - n) s.tiers.length
      ⟨0,st+1+1+1+1,_,by omega,(zH _).symm,(k3.app (zD rfl)).add0 (new:=[s.diff,s.least,s.fault,(s.tiers.length:Int)]) rfl (by simp only[List.length_cons,List.length_nil];omega) (by simp[qn]),by simp only[go_sem,t1],by simp only[go_sem],by(simp only[go_sem]<;>rfl),rfl⟩ ?_
     clear t1 t3 j y d b δ γ C E P K θ i a D F O k3 k2 k1 η ξ
     rintro m T H ⟨n,st,l4,N,β,k,t1,t3,x,rfl⟩
     have j:=k.box;have y:=k.row;have i:=k.len
     have d:∀M,(H++M)[h.length]? =_:=λM=>ze j
     have b:∀M,(H++M)[h.length+1]? =_:=λM=>ze y
     simp only[go_sem,t1,x,j,X,zb]
     refine ways (λe=>?_) (λe=>?_)
     ·have p:=dlt e
      have u:(n:Int)<s.tiers.length:=by omega
      have q:=xH jH p
      have a:(l4.length+2)*9<=140737488355328:=by omega
      have I:=Vw KB p β
      simp only[go_sem]
      refine zL rfl [.res] 1 [(0,0,[]),(1,0,[]),(3,0,[]),(7,0,[]),(9,0,[]),(2,0,[]),(4,0,[]),(5,0,[]),(6,0,[]),(8,0,[]),(10,0,[]),(11,0,[]),(12,0,[]),(13,0,[]),(14,0,[]),(15,0,[])] rfl (by decide) (by decide) ?_
      simp only[go_sem,t1,t3,x,j,d,b,a,X,ν,q,jH,u,zb,Int.toNat_natCast,zh]
      exact⟨s.tiers.length - (n+1),by omega,n+1,st+1,_,by omega,I.symm.trans (by simp),(k.app (zD rfl)).add0 (new:=KB s.tiers[n]) rfl (by show _=_+2;omega) rfl,rfl,qf (by omega) rfl,rfl⟩
     ·have z:=j9 e
      have v:n=s.tiers.length:=by omega
      subst v
      rw[zP] at β
      simp only[go_sem,t1,t3]
      have hr:WP s=l4:=by rw[β,U,S,Q,V,α];simp[WP]
      rw[hr]
      obtain⟨L,hL,hN⟩:=k.pre
      refine⟨.tl (h.length+1) st,by simp only[go_sem],.inl ⟨L,hL,hN,?_⟩⟩
      rw[hL] at y
      exact OwnS.new (.inr ⟨h.length+1,st,by omega,rfl,y⟩) (zo _)
theorem Q4a{s:Setup}(f:SFew s):(WP s).length<1099511627776*128:=by
 obtain⟨o,m,k,j,f5,f6⟩:=f
 have len:∀ {α:Type} (g:α->List Int) (n:Nat) (_:∀x,(g x).length=n) (l:List α),(l.flatMap g).length=n*l.length:=λg n h l=>by
  induction l with
  | nil=>rfl
  | cons x l c=>rw[List.flatMap_cons,zf,h,c,List.length_cons];rw[Nat.mul_succ];omega
 have i:=len KLa 3 (λ_=>rfl) s.ways
 have e:=len KMa 4 (λ_=>rfl) s.elements
 have d:=len KB 2 (λ_=>rfl) s.classes
 have a:=len KB 2 (λ_=>rfl) s.gears
 have b:=len KB 2 (λ_=>rfl) s.tiers
 simp only[WP,zf,List.length_cons,List.length_nil,i,e,d,a,b]
 omega
theorem xjb(h:List Ob)(l:List Ev)(d:l.length<1099511627776):
  ACalls Tryz.prog 106 [.sl 11 (l.map evC),.sl 11 (l.map evC)] h λr h'=>r=bl true/\h'=h:=by
 refine zi Tryz.f106 [.tmp 4] 26 rfl rfl rfl rfl rfl rfl (by decide) (⟨_,_,⟨rfl,rfl⟩,.refl⟩) λB=>?_
 simp only[go_sem,zb,bne_self_eq_false]
 refine zI (by decide) (λm T h'=>h'=h/\∃k:Nat,k<=l.length/\T 0= .sl 11 (l.map evC)/\T 1= .sl 11 (l.map evC)/\T 5=i64 k/\m=l.length - k) l.length
  ⟨rfl,0,by omega,by simp only[go_sem],by simp only[go_sem],by(simp only[go_sem]<;>rfl),rfl⟩ ?_
 rintro m T h' ⟨rfl,k,f,t0,t1,t5,rfl⟩
 simp only[go_sem,t5,t0,zb]
 refine ways (λe=>?_) (λe=>?_)
 ·have c:=dlt e
  have a:=xH evC c
  have b:(k:Int)<l.length:=by omega
  simp only[go_sem]
  refine zL rfl [] 0 [(0,0,[]),(1,0,[]),(4,0,[]),(5,0,[]),(2,0,[]),(3,0,[]),(6,0,[]),(7,0,[]),(8,0,[])] rfl (by decide) (by decide) ?_
  simp only[go_sem,t5,t0,t1,a,b,evC,zb,Int.toNat_natCast,zh,beq_self_eq_true,Bool.and_self,Bool.not_true,qt,bne_self_eq_false]
  exact⟨l.length - (k+1),by omega,k+1,by omega,qf (by omega) rfl,rfl⟩
 ·simp only[go_sem]
  refine zn ?_<;>(simp only[go_sem]<;>try rfl)
theorem z9b(h:List Ob)(l:List Int)(d:l.length<1099511627776):
  ACalls Tryz.prog 107 [.sl 1 (l.map qn),.sl 1 (l.map qn)] h λr h'=>r=bl true/\h'=h:=by
 refine zi Tryz.f107 [.tmp 4] 26 rfl rfl rfl rfl rfl rfl (by decide) (⟨_,_,⟨rfl,rfl⟩,.refl⟩) λB=>?_
 simp only[go_sem,zb,bne_self_eq_false]
 refine zI (by decide) (λm T h'=>h'=h/\∃k:Nat,k<=l.length/\T 0= .sl 1 (l.map qn)/\T 1= .sl 1 (l.map qn)/\T 5=i64 k/\m=l.length - k) l.length
  ⟨rfl,0,by omega,by simp only[go_sem],by simp only[go_sem],by(simp only[go_sem]<;>rfl),rfl⟩ ?_
 rintro m T h' ⟨rfl,k,f,t0,t1,t5,rfl⟩
 simp only[go_sem,t5,t0,zb]
 refine ways (λe=>?_) (λe=>?_)
 ·have c:=dlt e
  have a:=xH qn c
  have b:(k:Int)<l.length:=by omega
  simp only[go_sem]
  refine zL rfl [] 0 [(0,0,[]),(1,0,[]),(4,0,[]),(5,0,[]),(2,0,[]),(3,0,[]),(6,0,[]),(7,0,[]),(8,0,[])] rfl (by decide) (by decide) ?_
  simp only[go_sem,t5,t0,t1,a,b,qn,zb,Int.toNat_natCast,zh,beq_self_eq_true,Bool.and_self,Bool.not_true,qt,bne_self_eq_false]
  exact⟨l.length - (k+1),by omega,k+1,by omega,qf (by omega) rfl,rfl⟩
 ·simp only[go_sem]
  refine zn ?_<;>(simp only[go_sem]<;>try rfl)
theorem qab(h:List Ob)(l:List Seg)(d:l.length<1099511627776):
  ACalls Tryz.prog 104 [.sl 5 (l.map xT),.sl 5 (l.map xT)] h λr h'=>r=bl true/\h'=h:=by
 refine zi Tryz.f104 [.tmp 4] 26 rfl rfl rfl rfl rfl rfl (by decide) (⟨_,_,⟨rfl,rfl⟩,.refl⟩) λB=>?_
 simp only[go_sem,zb,bne_self_eq_false]
 refine zI (by decide) (λm T h'=>h'=h/\∃k:Nat,k<=l.length/\T 0= .sl 5 (l.map xT)/\T 1= .sl 5 (l.map xT)/\T 5=i64 k/\m=l.length - k) l.length
  ⟨rfl,0,by omega,by simp only[go_sem],by simp only[go_sem],by(simp only[go_sem]<;>rfl),rfl⟩ ?_
 rintro m T h' ⟨rfl,k,f,t0,t1,t5,rfl⟩
 simp only[go_sem,t5,t0,zb]
 refine ways (λe=>?_) (λe=>?_)
 ·have c:=dlt e
  have a:=xH xT c
  have b:(k:Int)<l.length:=by omega
  simp only[go_sem]
  refine zL rfl [] 0 [(0,0,[]),(1,0,[]),(4,0,[]),(5,0,[]),(2,0,[]),(3,0,[]),(6,0,[]),(7,0,[]),(8,0,[])] rfl (by decide) (by decide) ?_
  simp only[go_sem,t5,t0,t1,a,b,xT,zb,Int.toNat_natCast,zh,beq_self_eq_true,Bool.and_self,Bool.not_true,qt,bne_self_eq_false]
  exact⟨l.length - (k+1),by omega,k+1,by omega,qf (by omega) rfl,rfl⟩
 ·simp only[go_sem]
  refine zn ?_<;>(simp only[go_sem]<;>try rfl)
theorem qbb(h:List Ob)(l:List Flg)(d:l.length<1099511627776):
  ACalls Tryz.prog 85 [.sl 2 (l.map km),.sl 2 (l.map km)] h λr h'=>r=bl true/\h'=h:=by
 refine zi Tryz.f85 [.tmp 4] 26 rfl rfl rfl rfl rfl rfl (by decide) (⟨_,_,⟨rfl,rfl⟩,.refl⟩) λB=>?_
 simp only[go_sem,zb,bne_self_eq_false]
 refine zI (by decide) (λm T h'=>h'=h/\∃k:Nat,k<=l.length/\T 0= .sl 2 (l.map km)/\T 1= .sl 2 (l.map km)/\T 5=i64 k/\m=l.length - k) l.length
  ⟨rfl,0,by omega,by simp only[go_sem],by simp only[go_sem],by(simp only[go_sem]<;>rfl),rfl⟩ ?_
 rintro m T h' ⟨rfl,k,f,t0,t1,t5,rfl⟩
 simp only[go_sem,t5,t0,zb]
 refine ways (λe=>?_) (λe=>?_)
 ·have c:=dlt e
  have a:=xH km c
  have b:(k:Int)<l.length:=by omega
  simp only[go_sem]
  refine zL rfl [] 0 [(0,0,[]),(1,0,[]),(4,0,[]),(5,0,[]),(2,0,[]),(3,0,[]),(6,0,[]),(7,0,[]),(8,0,[])] rfl (by decide) (by decide) ?_
  simp only[go_sem,t5,t0,t1,a,b,km,zb,Int.toNat_natCast,zh,beq_self_eq_true,Bool.and_self,Bool.not_true,qt,bne_self_eq_false]
  exact⟨l.length - (k+1),by omega,k+1,by omega,qf (by omega) rfl,rfl⟩
 ·simp only[go_sem]
  refine zn ?_<;>(simp only[go_sem]<;>try rfl)
theorem YLa(h:List Ob)(s:Setup)(f:SFew s):ACalls Tryz.prog 178 [je s (frA s)] h λr h'=>r= .sl 1 ((WP s).map qn)/\h'=h:=
 jX (by decide) (wJ _) (xib h s f)
theorem xkb(h:List Ob)(s:Setup)(f:SFew s):ACalls Tryz.prog 105 [je s (frA s),je s (frA s)] h λr h'=>r=bl true/\h'=h:=by
 have i:=(yI (h:=h) s).ones
 have b:=Q4a f
 refine zi Tryz.f105 [.tmp 4] 32 rfl rfl rfl rfl rfl rfl (by decide) (⟨_,_,⟨rfl,rfl⟩,.refl⟩) λB=>?_
 simp only[go_sem,i]
 refine zg (YLa _ s f) ?_
 rintro _ q ⟨rfl,n⟩
 rw[n]
 simp only[go_sem,i]
 refine zg (YLa _ s f) ?_
 rintro _ q ⟨rfl,j⟩
 rw[j]
 clear n j
 obtain⟨l,p⟩:∃l,l=WP s:=⟨_,rfl⟩
 rw[<-p] at b⊢
 simp only[go_sem,zb,bne_self_eq_false]
 obtain⟨H,g⟩:∃H,H=h++[Ob.box 30 (qg s (frA s)),Ob.box 30 (qg s (frA s))]:=⟨_,rfl⟩
 rw[<-g]
 refine zI (by decide) (λm T h'=>h'=H/\∃k:Nat,k<=l.length/\T 5= .sl 1 (l.map qn)/\T 6= .sl 1 (l.map qn)/\T 7=i64 k/\m=l.length - k) l.length
  ⟨rfl,0,by omega,by simp only[go_sem],by simp only[go_sem],by(simp only[go_sem]<;>rfl),rfl⟩ ?_
 rintro m T h' ⟨rfl,k,t,t5,t6,o,rfl⟩
 simp only[go_sem,t5,o,zb]
 refine ways (λe=>?_) (λe=>?_)
 ·have d:=dlt e
  have a:=xH qn d
  have c:(k:Int)<l.length:=by omega
  simp only[go_sem]
  refine zL rfl [] 0 [(0,0,[]),(1,0,[]),(4,0,[]),(5,0,[]),(2,0,[]),(3,0,[]),(6,0,[]),(7,0,[]),(8,0,[])] rfl (by decide) (by decide) ?_
  simp only[go_sem,t5,t6,o,a,c,qn,zb,Int.toNat_natCast,zh,bne_self_eq_false]
  exact⟨l.length - (k+1),by omega,k+1,by omega,qf (by omega) rfl,rfl⟩
 ·simp only[go_sem]
  rw[g]
  refine zn ?_<;>(simp only[go_sem]<;>try rfl)
theorem qcb(h:List Ob)(s:Setup)(f:SFew s)(b:Bk)(i:BkI s b):ACalls Tryz.prog 42 [BV s b,BV s b] h λr h'=>r=bl true/\h'=h:=by
 have a:=(yI (h:=h) s).ones
 have c:=i.few
 have d:=Vu i
 refine zi Tryz.f42 [.tmp 4] 28 rfl rfl rfl rfl rfl rfl (by decide) (⟨_,_,⟨rfl,rfl⟩,.refl⟩) λB=>?_
 simp only[go_sem,a]
 refine zg (xkb _ s f) ?_
 rintro _ c ⟨rfl,rfl⟩
 simp only[go_sem,a]
 refine zg (xjb _ b.evs (by omega)) ?_
 rintro _ c ⟨rfl,rfl⟩
 simp only[go_sem,a]
 refine zg (z9b _ b.shut (by omega)) ?_
 rintro _ c ⟨rfl,rfl⟩
 simp only[go_sem,a]
 refine zn ?_<;>(simp only[go_sem]<;>try rfl)
theorem xlb:Tryz.prog.stoodInHeld 42=false:=by kernel_rfl
theorem xmb:xC Tryz.prog 42=true:=by unfold xC;rw[Tryz.eqGuardType42,xlb];rfl
theorem xnb(h:List Ob)(R:RowV × List Flg)(a:R.2.length<1099511627776):ACalls Tryz.prog 30 [.ag (q9 R),.ag (q9 R)] h λr h'=>r=bl true/\h'=h:=by
 refine zi Tryz.f30 [.tmp 4] 100 rfl rfl rfl rfl rfl rfl (by decide) (⟨_,_,⟨rfl,rfl⟩,.refl⟩) λB=>?_
 simp only[go_sem,xmb,Vea,q9,ve,List.cons_append,List.nil_append,beq_self_eq_true,Bool.and_self,qt]
 refine zg (qbb _ R.2 a) ?_
 rintro _ b ⟨rfl,rfl⟩
 simp only[go_sem,q9,ve,List.cons_append,List.nil_append,beq_self_eq_true,Bool.and_self,qt]
 refine zn ?_<;>(simp only[go_sem]<;>try rfl)
theorem KNa(h:List Ob)(l:List (RowV × List Flg))(j:l.length<1099511627776)(g:∀R∈l,R.2.length<1099511627776):
  ACalls Tryz.prog 18 [.sl 27 (l.map q9),.sl 27 (l.map q9)] h λr h'=>r=bl true/\h'=h:=by
 refine zi Tryz.f18 [.tmp 4] 29 rfl rfl rfl rfl rfl rfl (by decide) (⟨_,_,⟨rfl,rfl⟩,.refl⟩) λB=>?_
 simp only[go_sem,zb,bne_self_eq_false]
 refine zI (by decide) (λm T h'=>h'=h/\∃k:Nat,k<=l.length/\T 0= .sl 27 (l.map q9)/\T 1= .sl 27 (l.map q9)/\T 5=i64 k/\m=l.length - k) l.length
  ⟨rfl,0,by omega,by simp only[go_sem],by simp only[go_sem],by(simp only[go_sem]<;>rfl),rfl⟩ ?_
 rintro m T h' ⟨rfl,k,n,t0,t1,t5,rfl⟩
 simp only[go_sem,t5,t0,zb]
 refine ways (λe=>?_) (λe=>?_)
 ·have b:=dlt e
  have a:=xH q9 b
  have d:(k:Int)<l.length:=by omega
  have c:=g _ (zy b)
  obtain⟨R,i⟩:∃R,R=l[k]:=⟨_,rfl⟩
  rw[<-i] at a c
  have f:AV.ag (q9 R)=AV.ag (q9 R):=rfl
  simp only[go_sem]
  refine zL rfl [] 0 [(0,0,[]),(1,0,[]),(4,0,[]),(5,0,[]),(2,0,[]),(3,0,[]),(6,0,[]),(7,0,[]),(8,0,[]),(9,0,[])] rfl (by decide) (by decide) ?_
  simp only[go_sem,t5,t0,t1,a,d,q9,ve,List.cons_append,List.nil_append,zb,Int.toNat_natCast,zh]
  refine zg (xnb _ R c) ?_
  rintro _ o ⟨rfl,rfl⟩
  simp only[go_sem,t5]
  exact⟨l.length - (k+1),by omega,k+1,by omega,t0,t1,qf (by omega) rfl,rfl⟩
 ·simp only[go_sem]
  refine zn ?_<;>(simp only[go_sem]<;>try rfl)
structure AnFew (w:An):Prop where
 rows:w.rows.length<1099511627776
 flgs:∀R∈w.rows,R.2.length<1099511627776
 segs:w.segs.length<1099511627776
theorem voa:∀l:List Int,xua (l.map xv)=some (l.map λn=>UInt8.ofNat n.toNat)
 | []=>rfl
 | n::l=>by
   rw[List.map_cons,List.map_cons]
   show(xua (l.map xv)).map _=_
   rw[voa l]
   rfl
theorem krb(h:List Ob)(w:An)(k:AnFew w):ACalls Tryz.prog 39 [.ag (xN w),.ag (xN w)] h λr h'=>r=bl true/\h'=h:=by
 refine zi Tryz.f39 [.tmp 4] 37 rfl rfl rfl rfl rfl rfl (by decide) (⟨_,_,⟨rfl,rfl⟩,.refl⟩) λB=>?_
 simp only[go_sem]
 refine zg (KNa _ w.rows k.rows k.flgs) ?_
 rintro _ a ⟨rfl,rfl⟩
 simp only[go_sem]
 refine zg (qab _ w.segs k.segs) ?_
 rintro _ a ⟨rfl,rfl⟩
 simp only[go_sem,voa,Joa,beq_self_eq_true,qt]
 refine zn ?_<;>(simp only[go_sem]<;>try rfl)
theorem kAb(h:List Ob)(l:List An)(y:AV)(j:SlOf h y 4 (l.map xN))(p:l.length<1099511627776)(o:∀w∈l,AnFew w):
  ACalls Tryz.prog 41 [.sl 4 (l.map xN),y] h λr h'=>r=bl true/\h'=h:=by
 have c:=j.rows
 refine zi Tryz.f41 [.tmp 4] 29 rfl rfl rfl rfl rfl rfl (by decide) (⟨_,_,⟨rfl,rfl⟩,.refl⟩) λB=>?_
 simp only[go_sem,c,zb,bne_self_eq_false]
 refine zI (by decide) (λm T h'=>h'=h/\∃k:Nat,k<=l.length/\T 0= .sl 4 (l.map xN)/\T 1=y/\T 5=i64 k/\m=l.length - k) l.length
  ⟨rfl,0,by omega,by simp only[go_sem],by simp only[go_sem],by(simp only[go_sem]<;>rfl),rfl⟩ ?_
 rintro m T h' ⟨rfl,k,q,t0,t1,t5,rfl⟩
 simp only[go_sem,t5,t0,zb]
 refine ways (λe=>?_) (λe=>?_)
 ·have b:=dlt e
  have a:=xH xN b
  have g:=j.at (i:=k) (by simpa using b)
  have f:(k:Int)<l.length:=by omega
  have d:=o _ (zy b)
  obtain⟨w,n⟩:∃w,w=l[k]:=⟨_,rfl⟩
  rw[<-n] at a d
  simp only[go_sem]
  refine zL rfl [] 0 [(0,0,[]),(1,0,[]),(4,0,[]),(5,0,[]),(2,0,[]),(3,0,[]),(6,0,[]),(7,0,[]),(8,0,[]),(9,0,[])] rfl (by decide) (by decide) ?_
  simp only[go_sem,t5,t0,t1,a,f,g,c,zb,Int.toNat_natCast,zh]
  refine zg (krb _ w d) ?_
  rintro _ s ⟨rfl,rfl⟩
  simp only[go_sem,t5]
  exact⟨l.length - (k+1),by omega,k+1,by omega,t0,t1,qf (by omega) rfl,rfl⟩
 ·simp only[go_sem]
  refine zn ?_<;>(simp only[go_sem]<;>try rfl)
theorem Qg(e:Int):AnFew (wt e):=⟨by show 0<_;omega,λ_ h=>(by cases h),by show 0<_;omega⟩
theorem WWa{s:Setup}{b:Bk}(f:SFit s)(i:BkI s b)(c:s.rates.length<4096)(q:Cm):AnFew (doP s b q).2:=by
 have d:=i.few
 have wf:=λw wk=>(Vt f b.evs w wk (by omega)).2
 unfold doP
 split
 ·exact Qg _
 ·split
  ·exact Qg _
  ·split
   ·show AnFew (if _ then _ else _)
    split
    ·exact⟨by show 1<_;omega,λR a=>by rw[zW.1 a];exact Nat.lt_trans (wf _ _) (by omega),by show 0<_;omega⟩
    ·exact Qg _
   ·split
    ·show AnFew (if _ then _ else _)
     split
     ·have:=Xg (s:=s) (l:=b.evs) (w:=q.worker)
      exact⟨by show 0<_;omega,λ_ h=>(by cases h),by show(qA s b.evs q.worker).1.length<_;omega⟩
     ·exact Qg _
    ·split
     ·split<;>exact Qg _
     ·split
      ·split<;>exact Qg _
      ·split
       ·show AnFew (if _ then _ else _)
        split
        ·refine⟨?_,λR a=>?_,by show 0<_;omega⟩
         ·show(xj s b q.week).length<_
          rw[xj,zb,js];omega
         ·obtain⟨w,_,rfl⟩:=zr.1 a
          exact Nat.lt_trans (wf _ _) (by omega)
        ·exact Qg _
       ·split<;>exact Qg _
theorem KOa{s:Setup}(f:SFit s)(a:s.rates.length<4096):∀(l:List Cm) {b:Bk},BkI s b->∀w∈(vC s b l).2,AnFew w
 | [],_,_,_,h=>by cases h
 | q::l,b,i,w,h=>by
   rcases zx.1 h with rfl|h
   ·exact WWa f i a q
   ·exact KOa f a l (Vo q i) w h
