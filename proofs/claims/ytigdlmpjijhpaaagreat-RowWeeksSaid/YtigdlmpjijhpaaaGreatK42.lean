/-
  Joined.
-/
import Derived.Test.YtigdlmpjijhpaaaGreatK40
import Derived.Test.YtigdlmpjijhpaaaGreatK37
import Derived.Test.YtigdlmpjijhpaaaGreatK36
import Derived.Test.YtigdlmpjijhpaaaGreatK35
import Derived.Test.YtigdlmpjijhpaaaGreatK39
import Derived.Test.YtigdlmpjijhpaaaGreatK41
import Derived.Test.YtigdlmpjijhpaaaGreatK33
import Derived.Test.YtigdlmpjijhpaaaGreatK20
import Derived.Test.YtigdlmpjijhpaaaGreatK23
set_option linter.unusedSimpArgs false
set_option linter.unusedVariables false
namespace Go.Proofs.YtigdlmpjijhpaaaGreat.Ax
open Go Go.Proofs
set_option maxRecDepth 100000
def s20:Setup:=⟨1,[],(1,1),[((1,1),(1,1))],[(1,1)],[(1,1)],0,1,36000,0,86400,0,28800,43200,144000,0,0,[1500],0,0,0,[(0,100)]⟩
def l20:List Ev:=[⟨1,0,0,1,0,0,0,0,0,0,0⟩,⟨2,0,0,3,0,0,0,1799,0,0,0⟩,⟨3,0,3600,2,0,0,0,0,0,0,0⟩,⟨4,0,3601,2,0,0,0,0,0,0,0⟩]
def xx:RowV × List Flg:=je s20 l20 0 0
def q7a:RowV × List Flg:=je s20 l20 1 0
def rm2:RowV:=⟨0,0,0,λ_=>0,λ_=>0,(0,0),(0,0),0, -2,0,0,0⟩
theorem Jpa:[xx.1.tot 0,xx.1.tot 1,xx.1.tot 2,xx.1.tot 3,xx.1.tot 4,xx.1.tot 5,xx.1.tot 6]=[0,3600,0,0,0,0,0]:=by kernel_rfl
theorem Jqa:[xx.1.pays 1,xx.1.earned.1,xx.1.earned.2,xx.1.perf.1,xx.1.perf.2,xx.1.elig,xx.1.tier,xx.1.extra,xx.1.total]=[1500,1800,1,1,2,3600,0,100,1600]:=by kernel_rfl
theorem Jra:xx.2.map (·.id)=[4]:=by kernel_rfl
theorem Jsa:yr xx.1 xx.2=true:=by kernel_rfl
theorem yla:[q7a.1.err,q7a.1.tier]=[80, -1]:=by kernel_rfl
theorem wr0:vd []=([0],0):=by kernel_rfl
theorem wrm:vd [(rm2,[])]=([],200):=by kernel_rfl
end Go.Proofs.YtigdlmpjijhpaaaGreat.Ax
namespace Go.Proofs.YtigdlmpjijhpaaaGreat.Ax
open Go Go.Proofs Go.RowKit
set_option maxRecDepth 100000
structure NumI (h H:List Ob) (s:Setup) (l:List Int) (st b:Nat):Prop where
 pre:Pre h H
 box:H[h.length]? =some (.box 30 (zr s (frA s)))
 row:H[h.length+1]? =some (.row 3 1 (l.map zJ) st)
 len:l.length=b
end Go.Proofs.YtigdlmpjijhpaaaGreat.Ax
namespace Go.Proofs.YtigdlmpjijhpaaaGreat.Ax
open Go Go.Proofs Go.Shelf Go.RowKit Go.Lib Go.Sort
set_option maxRecDepth 100000
end Go.Proofs.YtigdlmpjijhpaaaGreat.Ax
namespace Go.Proofs.YtigdlmpjijhpaaaGreat.Ax
open Go Go.Proofs
set_option maxRecDepth 100000
section
variable {h:List Ob} {d:Nat} {s:Setup} {a:SA} {x c:AV} {rows segs bytes:AV} {q:Cm}
end
set_option maxRecDepth 100000
section
variable {h:List Ob} {d:Nat} {s:Setup} {a:SA} {x c:AV} {rows segs bytes:AV} {q:Cm}
end
end Go.Proofs.YtigdlmpjijhpaaaGreat.Ax
namespace Go.Proofs.YtigdlmpjijhpaaaGreat.Ax
open Go Go.Proofs Go.RowKit
set_option maxRecDepth 100000
abbrev nl:AV:= .v (.slice none 0 0)
abbrev BX (b:Bk):AV:= .sl 11 (b.evs.map evC)
abbrev BC (b:Bk):AV:= .sl 1 (b.shut.map zJ)
structure AL (n:Nat) (a:SA):Prop where
 w:a.w.lt n=true
 e:a.e.lt n=true
 c:a.c.lt n=true
 g:a.g.lt n=true
 r:a.r.lt n=true
 t:a.t.lt n=true
section
variable {h:List Ob} {d:Nat} {s:Setup} {a:SA} {q:Cm} {b:Bk}
end
set_option maxRecDepth 100000
set_option maxRecDepth 100000
abbrev zB:Ob:= .box 63 (yQa zS zA JI JI)
structure AllI (h h':List Ob) (s:Setup) (b:Bk) (y:AV) (rows:List (List AV)):Prop where
 pre:Pre h h'
 b0:h'[h.length]? =some (.box 63 (yQa s (frA s) (BX b) (BC b)))
 b1:h'[h.length+1]? =some zB
 own:OwnS h h' 71 4 y rows
set_option maxRecDepth 100000
set_option maxRecDepth 100000
theorem Jta:Tryz.prog.stoodInHeld 42=false:=by kernel_rfl
theorem Jua:qU Tryz.prog 42=true:=by unfold qU;rw[Tryz.eqGuardType42,Jta];rfl
structure AnFew (w:An):Prop where
 rows:w.rows.length<1099511627776
 flgs:∀R∈w.rows,R.2.length<1099511627776
 segs:w.segs.length<1099511627776
theorem YS:∀l:List Int,VC (l.map jE)=some (l.map λn=>UInt8.ofNat n.toNat)
 | []=>rfl
 | n::l=>by
   rw[List.map_cons,List.map_cons]
   show (VC (l.map jE)).map _=_
   rw[YS l]
   rfl
end Go.Proofs.YtigdlmpjijhpaaaGreat.Ax
namespace Go.Proofs.YtigdlmpjijhpaaaGreat.Ax
open Go Go.Proofs
theorem vTa (h:List Ob):ACalls Tryz.prog 16 [.v (.slice none 0 0)] h λr h'=>r= .tup [.v (.slice none 0 0),.v (.int .i64 200)]/\h'=h:=by
 refine ⟨by kernel_rfl,⟨_,_,⟨rfl,rfl⟩,.refl⟩,λφ i B w g vs f hB a=>?_⟩
 obtain ⟨u,r,rfl,d,c⟩:=a
 have d:u= .slice none 0 0:=d
 have c:r=[]:=c
 subst d c
 refine (vSa 0 w).mono ?_
 rintro e w' ⟨rfl,b⟩
 exact ⟨_,_,h,g,rfl,⟨rfl,rfl⟩,.refl,⟨f.ext b,Le.ext b,b.mono hB,Nat.le_trans hB b.size⟩,⟨_,rfl,⟨_,_,rfl,rfl,⟨_,_,rfl,rfl,rfl⟩⟩⟩⟩
set_option maxRecDepth 100000
theorem vUa:SFit s20:=⟨by simp[Fit,s20],by simp[qa,Fit,s20],by simp[qa,Fit,s20],by simp[qa,Fit,s20],by simp[qa,Fit,s20],by simp[qa,Fit,s20],by simp[s20],by simp[s20],by simp[s20],by simp[s20],by simp[s20],by simp[s20]⟩
def a20 (n:Nat):SA:=⟨.v (.slice none 0 0),.tl (n+2) 0,.tl (n+3) 0,.tl (n+4) 0,.tl (n+5) 0,.tl (n+6) 0⟩
def H20 (n:Nat):List Ob:=[.box 30 (zr s20 (a20 n)),.box 24 (qz (1,1)),.row 183 4 (s20.elements.map QN) 0,.row 24 2 (s20.classes.map qz) 0,.row 24 2 (s20.gears.map qz) 0,.row 3 1 (s20.rates.map zJ) 0,.row 185 2 (s20.tiers.map qz) 0]
theorem Jva (h:List Ob):ACalls Tryz.prog 43 [] h λr h'=>r=qj s20 (a20 h.length)/\h'=h++H20 h.length:=by
 refine zf Tryz.f43 [.cell 0 30] 16 rfl rfl rfl rfl rfl rfl (by decide) (⟨_,_,⟨rfl,rfl⟩,zW⟩) λB=>?_
 simp only[go_sem]
 exact ⟨qj s20 (a20 h.length),by (simp only[go_sem]<;>rfl),.inl ⟨rfl,rfl⟩⟩
theorem yTa (h:List Ob):SIn (h++H20 h.length) s20 (a20 h.length):=
 ⟨z9a,yo (by rw[zl (k:=2) rfl];rfl),yo (by rw[zl (k:=3) rfl];rfl),yo (by rw[zl (k:=4) rfl];rfl),yo (by rw[zl (k:=5) rfl];rfl),yo (by rw[zl (k:=6) rfl];rfl)⟩
theorem Jwa (n:Nat):NoRes (H20 n):=λo a=>by
 simp only[H20,List.mem_cons,List.not_mem_nil,or_false] at a
 rcases a with rfl | rfl | rfl | rfl | rfl | rfl | rfl<;>rfl
theorem Jxa (h:List Ob):ACalls Tryz.prog 43 [] h λr h'=>∃a M,r=qj s20 a/\SIn h' s20 a/\h'=h++M/\NoRes M:=
 (Jva h).mono λr h' ⟨c,b⟩=>⟨_,_,c,by rw[b];exact yTa h,b,Jwa _⟩
theorem yma:∀ {l:List Flg},l.map (·.id)=[4]->∃f:Flg,l=[f]/\f.id=4
 | [],h=>by simp at h
 | [f],h=>⟨f,rfl,by simpa using h⟩
 | a::b::l,h=>by simp at h
set_option maxHeartbeats 4000000 in
theorem Xna:jf Tryz.prog 12 [] (bl true):=λh=>by
 refine zf Tryz.f12 [.tmp 0] 130 rfl rfl rfl rfl rfl rfl (by decide) (⟨_,_,⟨rfl,rfl⟩,.refl⟩) λB=>?_
 simp only[go_sem]
 obtain ⟨h0,d⟩:∃h0,h0=h++[Ob.row 75 11 (l20.map evC) 0]:=⟨_,rfl⟩
 have c:=d
 simp only[l20,List.map_cons,List.map_nil,evC] at c
 rw[<-c]
 clear c
 have x:h0[h.length]? =some (.row 75 11 (l20.map evC) 0):=by rw[d,zm rfl];rfl
 have e:Pre h h0:=⟨_,d,zj rfl⟩
 refine zd (Jva _) ?_
 rintro _ t ⟨rfl,n⟩
 have k1:=yTa h0
 have l:=e.app (Jwa h0.length)
 have j:t[h.length]? =some (.row 75 11 (l20.map evC) 0):=by rw[n];exact zb x
 rw[<-n] at k1 l
 clear n
 simp only[go_sem]
 refine zd (Jja _ s20 (a20 h0.length) k1 vUa _ l20 0 0 (yo j) (by decide)) ?_
 rintro _ b ⟨rfl,a⟩
 rw[a]
 clear a
 have p:=Jpa
 have D:=Jqa
 have J:=Jra
 have m:=Jsa
 have y:=(vQa vUa l20 0 0 (by decide)).1
 have g:xx=je s20 l20 0 0:=rfl
 rw[<-g] at y⊢
 generalize xx=W at p D J m y⊢
 clear g
 obtain ⟨R,F⟩:=W
 obtain ⟨f,o,S⟩:=yma J
 have o:F=[f]:=o
 subst o
 simp only[List.cons.injEq,and_true] at p D
 obtain ⟨a0,a1,a2,a3,a4,a5,E⟩:=p
 obtain ⟨b0,b1,b2,b3,b4,b5,b6,I,G⟩:=D
 simp only[go_sem,qda,List.cons_append,List.nil_append]
 refine zd (vOa _ _ [] z9a (λq A=>by cases A) (by decide)) ?_
 rintro _ b ⟨rfl,a⟩
 rw[a,show jH []=[] from rfl,wr0]
 clear a
 simp only[go_sem]
 refine zd (vTa _) ?_
 rintro _ b ⟨rfl,a⟩
 rw[a]
 clear a
 simp only[go_sem]
 refine zd (vOa _ _ [(rm2,.v (.slice none 0 0),[])] (yo (ty:=45) (st:=0) (by rw[zl (k:=1) rfl];rfl)) (λq A=>by rw[List.mem_singleton.1 A];exact ⟨z9a,by simp[Fit,rm2],by decide⟩) (by decide)) ?_
 rintro _ b ⟨rfl,a⟩
 rw[a,show jH [(rm2,AV.v (.slice none 0 0),[])]=[(rm2,[])] from rfl,wrm]
 clear a
 simp only[go_sem]
 refine zd (Jxa _) ?_
 rintro _ b ⟨z,M,rfl,k2,a,N⟩
 have P:b[t.length]? =some (.box 45 (jT R (.sl 2 [xP f]))):=by rw[a];exact zb (by rw[zm rfl];rfl)
 have r:b[h.length]? =some (.row 75 11 (l20.map evC) 0):=by rw[a];exact zb (zb j)
 have C:Pre h b:=by rw[a];exact (l.app (zg rfl (zj rfl))).app N
 clear a
 simp only[go_sem]
 refine zd (Jja _ s20 z k2 vUa _ l20 1 0 (yo r) (by decide)) ?_
 rintro _ O ⟨rfl,a⟩
 rw[a]
 clear a
 have i:=yla
 have g:q7a=je s20 l20 1 0:=rfl
 rw[<-g]
 generalize q7a=W2 at i⊢
 clear g
 obtain ⟨U,T⟩:=W2
 simp only[List.cons.injEq,and_true] at i
 obtain ⟨i,K⟩:=i
 have s:∀M,(b++M)[t.length]? =some (.box 45 (jT R (.sl 2 [xP f]))):=λM=>zb P
 have w:VC [jE 0]=some [0]:=rfl
 simp only[go_sem,w,qda,List.cons_append,List.nil_append,s,List.length_cons,List.length_nil,Nat.zero_add,zL,bne_self_eq_false,Jua,vWa,a0,a1,a2,a3,a4,a5,E,b0,b1,b2,b3,b4,b5,b6,I,G,S,i,K,beq_self_eq_true,Bool.and_self,YS,xDa]
 have m:yr R [f]=true:=m
 have u:=λH=>vNa H R (.sl 2 [xP f]) [f] y ⟨rfl,λ_=>rfl⟩ (by show 1<524288;decide)
 rw[m] at u
 simp only[jT,a0,a1,a2,a3,a4,a5,E,b0,b1,b2,b3,b4,b5,b6,I,G] at u
 refine zd (u _) ?_
 rintro _ O ⟨rfl,a⟩
 rw[a]
 clear a
 simp only[go_sem,zL]
 obtain ⟨L,Q,_⟩:=C
 rw[Q,List.append_assoc]
 (first | refine zc ?_ | refine ze ?_ (by rfl))<;>(simp only[go_sem]<;>try rfl)
set_option maxRecDepth 100000
theorem Xma (h:List Ob) (s:Setup) (a:SA) (k:SIn h s a) (x:AV) (l:List Ev) (j:SlOf h x 11 (l.map evC)):ACalls Tryz.prog 13 [qj s a,x] h λr h'=>r=bl (zVa s && decide (l.length<=60))/\h'=h:=by
 refine zf Tryz.f13 [.tmp 4] 12 rfl rfl rfl rfl rfl rfl (by decide) (⟨_,_,⟨rfl,rfl⟩,.refl⟩) λB=>?_
 simp only[go_sem,k.w.one,k.e.one,k.c.one,k.g.one,k.r.one,k.t.one]
 refine zd (c25 _ s a (k.app _)) ?_
 rintro _ m ⟨rfl,i⟩
 subst i
 have f:∀M,zo (h++M) x=_:=λM=>(j.app M).rows
 have d:decide ((l.length:Int)<=60)=decide (l.length<=60):=decide_eq_decide.2 (by omega)
 cases b:zVa s with
 | false=>
   simp only[go_sem,b,zL]
   (first | refine zc ?_ | refine ze ?_ (by rfl))<;>(simp only[go_sem,b,Bool.false_and]<;>try rfl)
 | true=>
   simp only[go_sem,b,zL,f,List.length_map,d]
   (first | refine zc ?_ | refine ze ?_ (by rfl))<;>(simp only[go_sem,b,Bool.true_and]<;>try rfl)
end Go.Proofs.YtigdlmpjijhpaaaGreat.Ax
