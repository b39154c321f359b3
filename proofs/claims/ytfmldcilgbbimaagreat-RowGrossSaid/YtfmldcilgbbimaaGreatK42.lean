/-
  Joined.
-/
import Derived.Test.YtfmldcilgbbimaaGreatK40
import Derived.Test.YtfmldcilgbbimaaGreatK37
import Derived.Test.YtfmldcilgbbimaaGreatK36
import Derived.Test.YtfmldcilgbbimaaGreatK35
import Derived.Test.YtfmldcilgbbimaaGreatK39
import Derived.Test.YtfmldcilgbbimaaGreatK41
import Derived.Test.YtfmldcilgbbimaaGreatK33
set_option linter.unusedSimpArgs false
set_option linter.unusedVariables false
namespace Go.Proofs.YtfmldcilgbbimaaGreat.Ax
open Go Go.Proofs
set_option maxRecDepth 100000
def s20:Setup:=⟨1,[],(1,1),[((1,1),(1,1))],[(1,1)],[(1,1)],0,1,36000,0,86400,0,28800,43200,144000,0,0,[1500],0,0,0,[(0,100)]⟩
def l20:List Ev:=[⟨1,0,0,1,0,0,0,0,0,0,0⟩,⟨2,0,0,3,0,0,0,1799,0,0,0⟩,⟨3,0,3600,2,0,0,0,0,0,0,0⟩,⟨4,0,3601,2,0,0,0,0,0,0,0⟩]
def xq:RowV × List Flg:=qH s20 l20 0 0
def qQa:RowV × List Flg:=qH s20 l20 1 0
def rm2:RowV:=⟨0,0,0,λ_=>0,λ_=>0,(0,0),(0,0),0, -2,0,0,0⟩
theorem QYa:[xq.1.tot 0,xq.1.tot 1,xq.1.tot 2,xq.1.tot 3,xq.1.tot 4,xq.1.tot 5,xq.1.tot 6]=[0,3600,0,0,0,0,0]:=by kernel_rfl
theorem QZa:[xq.1.pays 1,xq.1.earned.1,xq.1.earned.2,xq.1.perf.1,xq.1.perf.2,xq.1.elig,xq.1.tier,xq.1.extra,xq.1.total]=[1500,1800,1,1,2,3600,0,100,1600]:=by kernel_rfl
theorem Q0a:xq.2.map (·.id)=[4]:=by kernel_rfl
theorem Q1a:yj xq.1 xq.2=true:=by kernel_rfl
theorem wZa:[qQa.1.err,qQa.1.tier]=[80, -1]:=by kernel_rfl
theorem wr0:kW []=([0],0):=by kernel_rfl
theorem wrm:kW [(rm2,[])]=([],200):=by kernel_rfl
end Go.Proofs.YtfmldcilgbbimaaGreat.Ax
namespace Go.Proofs.YtfmldcilgbbimaaGreat.Ax
open Go Go.Proofs Go.RowKit
set_option maxRecDepth 100000
structure NumI (h H:List Ob) (s:Setup) (l:List Int) (st b:Nat):Prop where
 pre:Pre h H
 box:H[h.length]? =some (.box 30 (zr s (frA s)))
 row:H[h.length+1]? =some (.row 3 1 (l.map zH) st)
 len:l.length=b
end Go.Proofs.YtfmldcilgbbimaaGreat.Ax
namespace Go.Proofs.YtfmldcilgbbimaaGreat.Ax
open Go Go.Proofs Go.Shelf Go.RowKit Go.Lib Go.Sort
set_option maxRecDepth 100000
end Go.Proofs.YtfmldcilgbbimaaGreat.Ax
namespace Go.Proofs.YtfmldcilgbbimaaGreat.Ax
open Go Go.Proofs
set_option maxRecDepth 100000
section
variable {h:List Ob} {d:Nat} {s:Setup} {a:SA} {x c:AV} {rows segs bytes:AV} {q:Cm}
end
set_option maxRecDepth 100000
section
variable {h:List Ob} {d:Nat} {s:Setup} {a:SA} {x c:AV} {rows segs bytes:AV} {q:Cm}
end
end Go.Proofs.YtfmldcilgbbimaaGreat.Ax
namespace Go.Proofs.YtfmldcilgbbimaaGreat.Ax
open Go Go.Proofs Go.RowKit
set_option maxRecDepth 100000
abbrev nl:AV:= .v (.slice none 0 0)
abbrev BX (b:Bk):AV:= .sl 11 (b.evs.map evC)
abbrev BC (b:Bk):AV:= .sl 1 (b.shut.map zH)
structure AL (n:Nat) (a:SA):Prop where
 w:a.w.lt n=true
 e:a.e.lt n=true
 c:a.c.lt n=true
 g:a.g.lt n=true
 r:a.r.lt n=true
 t:a.t.lt n=true
section
variable {h:List Ob} {d:Nat} {s:Setup} {a:SA} {q:Cm} {b:Bk}
end
set_option maxRecDepth 100000
set_option maxRecDepth 100000
abbrev zB:Ob:= .box 64 (yra zS zA JB JB)
structure AllI (h h':List Ob) (s:Setup) (b:Bk) (y:AV) (rows:List (List AV)):Prop where
 pre:Pre h h'
 b0:h'[h.length]? =some (.box 64 (yra s (frA s) (BX b) (BC b)))
 b1:h'[h.length+1]? =some zB
 own:OwnS h h' 69 4 y rows
set_option maxRecDepth 100000
set_option maxRecDepth 100000
theorem Q2a:Tryz.prog.stoodInHeld 42=false:=by kernel_rfl
theorem Q3a:q9 Tryz.prog 42=true:=by unfold q9;rw[Tryz.eqGuardType42,Q2a];rfl
structure AnFew (w:An):Prop where
 rows:w.rows.length<1099511627776
 flgs:∀R∈w.rows,R.2.length<1099511627776
 segs:w.segs.length<1099511627776
theorem YC:∀l:List Int,Vu (l.map jw)=some (l.map λn=>UInt8.ofNat n.toNat)
 | []=>rfl
 | n::l=>by
   rw[List.map_cons,List.map_cons]
   show (Vu (l.map jw)).map _=_
   rw[YC l]
   rfl
end Go.Proofs.YtfmldcilgbbimaaGreat.Ax
namespace Go.Proofs.YtfmldcilgbbimaaGreat.Ax
open Go Go.Proofs
theorem vya (h:List Ob):ACalls Tryz.prog 17 [.v (.slice none 0 0)] h λr h'=>r= .tup [.v (.slice none 0 0),.v (.int .i64 200)]/\h'=h:=by
 refine ⟨by kernel_rfl,⟨_,_,⟨rfl,rfl⟩,.refl⟩,λφ i B w g vs f hB a=>?_⟩
 obtain ⟨u,r,rfl,d,c⟩:=a
 have d:u= .slice none 0 0:=d
 have c:r=[]:=c
 subst d c
 refine (vxa 0 w).mono ?_
 rintro e w' ⟨rfl,b⟩
 exact ⟨_,_,h,g,rfl,⟨rfl,rfl⟩,.refl,⟨f.ext b,Le.ext b,b.mono hB,Nat.le_trans hB b.size⟩,⟨_,rfl,⟨_,_,rfl,rfl,⟨_,_,rfl,rfl,rfl⟩⟩⟩⟩
set_option maxRecDepth 100000
theorem vza:SFit s20:=⟨by simp[Fit,s20],by simp[zY,Fit,s20],by simp[zY,Fit,s20],by simp[zY,Fit,s20],by simp[zY,Fit,s20],by simp[zY,Fit,s20],by simp[s20],by simp[s20],by simp[s20],by simp[s20],by simp[s20],by simp[s20]⟩
def a20 (n:Nat):SA:=⟨.v (.slice none 0 0),.tl (n+2) 0,.tl (n+3) 0,.tl (n+4) 0,.tl (n+5) 0,.tl (n+6) 0⟩
def H20 (n:Nat):List Ob:=[.box 30 (zr s20 (a20 n)),.box 24 (qv (1,1)),.row 166 4 (s20.elements.map QJ) 0,.row 24 2 (s20.classes.map qv) 0,.row 24 2 (s20.gears.map qv) 0,.row 3 1 (s20.rates.map zH) 0,.row 168 2 (s20.tiers.map qv) 0]
theorem Q4a (h:List Ob):ACalls Tryz.prog 40 [] h λr h'=>r=qh s20 (a20 h.length)/\h'=h++H20 h.length:=by
 refine zf Tryz.f40 [.cell 0 30] 16 rfl rfl rfl rfl rfl rfl (by decide) (⟨_,_,⟨rfl,rfl⟩,zT⟩) λB=>?_
 simp only[go_sem]
 exact ⟨qh s20 (a20 h.length),by (simp only[go_sem]<;>rfl),.inl ⟨rfl,rfl⟩⟩
theorem yua (h:List Ob):SIn (h++H20 h.length) s20 (a20 h.length):=
 ⟨zRa,yi (by rw[zl (k:=2) rfl];rfl),yi (by rw[zl (k:=3) rfl];rfl),yi (by rw[zl (k:=4) rfl];rfl),yi (by rw[zl (k:=5) rfl];rfl),yi (by rw[zl (k:=6) rfl];rfl)⟩
theorem Q5a (n:Nat):NoRes (H20 n):=λo a=>by
 simp only[H20,List.mem_cons,List.not_mem_nil,or_false] at a
 rcases a with rfl | rfl | rfl | rfl | rfl | rfl | rfl<;>rfl
theorem Q6a (h:List Ob):ACalls Tryz.prog 40 [] h λr h'=>∃a M,r=qh s20 a/\SIn h' s20 a/\h'=h++M/\NoRes M:=
 (Q4a h).mono λr h' ⟨c,b⟩=>⟨_,_,c,by rw[b];exact yua h,b,Q5a _⟩
theorem w0a:∀ {l:List Flg},l.map (·.id)=[4]->∃f:Flg,l=[f]/\f.id=4
 | [],h=>by simp at h
 | [f],h=>⟨f,rfl,by simpa using h⟩
 | a::b::l,h=>by simp at h
set_option maxHeartbeats 4000000 in
theorem JSa:qX Tryz.prog 13 [] (bl true):=λh=>by
 refine zf Tryz.f13 [.tmp 0] 130 rfl rfl rfl rfl rfl rfl (by decide) (⟨_,_,⟨rfl,rfl⟩,.refl⟩) λB=>?_
 simp only[go_sem]
 obtain ⟨h0,d⟩:∃h0,h0=h++[Ob.row 73 11 (l20.map evC) 0]:=⟨_,rfl⟩
 have c:=d
 simp only[l20,List.map_cons,List.map_nil,evC] at c
 rw[<-c]
 clear c
 have y:h0[h.length]? =some (.row 73 11 (l20.map evC) 0):=by rw[d,zm rfl];rfl
 have i:Pre h h0:=⟨_,d,zj rfl⟩
 refine zd (Q4a _) ?_
 rintro _ C ⟨rfl,D⟩
 have k1:=yua h0
 have g:=i.app (Q5a h0.length)
 have j:C[h.length]? =some (.row 73 11 (l20.map evC) 0):=by rw[D];exact zb y
 rw[<-D] at k1 g
 clear D
 simp only[go_sem]
 refine zd (QRa _ s20 (a20 h0.length) k1 vza _ l20 0 0 (yi j) (by decide)) ?_
 rintro _ b ⟨rfl,a⟩
 rw[a]
 clear a
 have s:=QYa
 have o:=QZa
 have G:=Q0a
 have m:=Q1a
 have n:=(vva vza l20 0 0 (by decide)).1
 have l:xq=qH s20 l20 0 0:=rfl
 rw[<-l] at n⊢
 generalize xq=W at s o G m n⊢
 clear l
 obtain ⟨R,F⟩:=W
 obtain ⟨f,p,P⟩:=w0a G
 have p:F=[f]:=p
 subst p
 simp only[List.cons.injEq,and_true] at s o
 obtain ⟨a0,a1,a2,a3,a4,a5,E⟩:=s
 obtain ⟨b0,b1,b2,b3,b4,b5,b6,I,J⟩:=o
 simp only[go_sem,zVa,List.cons_append,List.nil_append]
 refine zd (vta _ _ [] zRa (λq A=>by cases A) (by decide)) ?_
 rintro _ b ⟨rfl,a⟩
 rw[a,show jz []=[] from rfl,wr0]
 clear a
 simp only[go_sem]
 refine zd (vya _) ?_
 rintro _ b ⟨rfl,a⟩
 rw[a]
 clear a
 simp only[go_sem]
 refine zd (vta _ _ [(rm2,.v (.slice none 0 0),[])] (yi (ty:=45) (st:=0) (by rw[zl (k:=1) rfl];rfl)) (λq A=>by rw[List.mem_singleton.1 A];exact ⟨zRa,by simp[Fit,rm2],by decide⟩) (by decide)) ?_
 rintro _ b ⟨rfl,a⟩
 rw[a,show jz [(rm2,AV.v (.slice none 0 0),[])]=[(rm2,[])] from rfl,wrm]
 clear a
 simp only[go_sem]
 refine zd (Q6a _) ?_
 rintro _ b ⟨z,M,rfl,k2,a,O⟩
 have Q:b[C.length]? =some (.box 45 (jL R (.sl 2 [xI f]))):=by rw[a];exact zb (by rw[zm rfl];rfl)
 have r:b[h.length]? =some (.row 73 11 (l20.map evC) 0):=by rw[a];exact zb (zb j)
 have x:Pre h b:=by rw[a];exact (g.app (zg rfl (zj rfl))).app O
 clear a
 simp only[go_sem]
 refine zd (QRa _ s20 z k2 vza _ l20 1 0 (yi r) (by decide)) ?_
 rintro _ N ⟨rfl,a⟩
 rw[a]
 clear a
 have e:=wZa
 have l:qQa=qH s20 l20 1 0:=rfl
 rw[<-l]
 generalize qQa=W2 at e⊢
 clear l
 obtain ⟨T,U⟩:=W2
 simp only[List.cons.injEq,and_true] at e
 obtain ⟨e,K⟩:=e
 have w:∀M,(b++M)[C.length]? =some (.box 45 (jL R (.sl 2 [xI f]))):=λM=>zb Q
 have u:Vu [jw 0]=some [0]:=rfl
 simp only[go_sem,u,zVa,List.cons_append,List.nil_append,w,List.length_cons,List.length_nil,Nat.zero_add,zM,bne_self_eq_false,Q3a,vBa,a0,a1,a2,a3,a4,a5,E,b0,b1,b2,b3,b4,b5,b6,I,J,P,e,K,beq_self_eq_true,Bool.and_self,YC,xka]
 have m:yj R [f]=true:=m
 have t:=λH=>vsa H R (.sl 2 [xI f]) [f] n ⟨rfl,λ_=>rfl⟩ (by show 1<524288;decide)
 rw[m] at t
 simp only[jL,a0,a1,a2,a3,a4,a5,E,b0,b1,b2,b3,b4,b5,b6,I,J] at t
 refine zd (t _) ?_
 rintro _ N ⟨rfl,a⟩
 rw[a]
 clear a
 simp only[go_sem,zM]
 obtain ⟨L,S,_⟩:=x
 rw[S,List.append_assoc]
 (first | refine zc ?_ | refine ze ?_ (by rfl))<;>(simp only[go_sem]<;>try rfl)
end Go.Proofs.YtfmldcilgbbimaaGreat.Ax
